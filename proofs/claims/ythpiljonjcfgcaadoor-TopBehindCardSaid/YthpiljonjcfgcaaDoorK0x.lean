/- Plain functions that mirror functions of the given program. Conditions: none. -/
import Derived.Test.YthpiljonjcfgcaaDoorKs
import Derived.Test.YthpiljonjcfgcaaDoorKso
import Derived.Test.YthpiljonjcfgcaaDoorVmSl
import Derived.Test.YthpiljonjcfgcaaDoorKq
import Derived.Test.YthpiljonjcfgcaaDoorTyK
set_option maxHeartbeats 1000000
set_option linter.unusedSimpArgs false
set_option linter.unusedVariables false
namespace Go.Vl
open Go
noncomputable def directory_Check_1 (a0:Int):Option (Bool):=
 (some ((decide (a0 < 1))||(decide (3 < a0)))).bind fun v1=>
 some v1
noncomputable def directory_exists (a0:api_Directory) (a1:Int):Option (Bool):=
 (some ((decide (0≤a1))&&(decide (a1 < ((a0.Kinds).length:Int))))).bind fun v1=>
 some v1
noncomputable def directory_group (a0:api_Directory) (a1:Int):Option (Bool):=
 Option.bind (
  (directory_exists a0 a1).bind fun y2=>
  if y2=true then
   (idx a0.Kinds a1).bind fun x3=>
   some (x3==2)
  else
   some false) fun v1=>
 some v1
noncomputable def sYIndexFunc_int_at_directory_Check_1_l0 (a0:List Int) (s2:Int):Option (Lp Int (Unit ⊕ Int)):=
 if(decide (s2 < ((a0).length:Int)))=true then
  (idx a0 s2).bind fun x3=>
  (directory_Check_1 x3).bind fun y4=>
  if y4=true then
   some (.out (.inr s2))
  else
   some (.go (IntKind.i64.wrap (s2+1)))
 else
  some (.out (.inl ()))
noncomputable def sYIndexFunc_int_at_directory_Check_1 (a0:List Int):Option (Int):=
 (iter (sYIndexFunc_int_at_directory_Check_1_l0 a0) 0).bind fun q6=>
 match q6 with
 | .inl v1=>
  some (-1)
 | .inr r5=>
  some r5
noncomputable def sYContainsFunc_int_at_directory_Check_1 (a0:List Int):Option (Bool):=
 (sYIndexFunc_int_at_directory_Check_1 a0).bind fun y1=>
 some (decide (0≤y1))
noncomputable def directory_Check_l0 (a0:api_Directory) (s3:Int×Int):Option (Lp (Int×Int) (Unit ⊕ Int)):=
 if(decide (s3.2 < ((a0.Events).length:Int)))=true then
  (idx a0.Events s3.2).bind fun x4=>
  Option.bind (
   if(x4.Kind != 1)=true then
    if(x4.Kind != 2)=true then
     some true
    else
    if(decide (x4.Time < s3.1))=true then
     some true
    else
    if(decide (1099511627776 < x4.Time))=true then
     some true
    else
    (directory_exists a0 x4.Principal).bind fun y6=>
    if(!y6)=true then
     some true
    else
    (directory_group a0 x4.Group).bind fun y7=>
    if(!y7)=true then
     some true
    else
     some (x4.Principal==x4.Group)
   else
   if(decide (x4.Time < s3.1))=true then
    some true
   else
   if(decide (1099511627776 < x4.Time))=true then
    some true
   else
   (directory_exists a0 x4.Principal).bind fun y8=>
   if(!y8)=true then
    some true
   else
   (directory_group a0 x4.Group).bind fun y9=>
   if(!y9)=true then
    some true
   else
    some (x4.Principal==x4.Group)) fun v5=>
  if v5=true then
   some (.out (.inr 30))
  else
   some (.go (x4.Time,IntKind.i64.wrap (s3.2+1)))
 else
  some (.out (.inl ()))
noncomputable def directory_Check (a0:api_Directory):Option (Int):=
 Option.bind (
  if(decide (24 < ((a0.Kinds).length:Int)))=true then
   some true
  else
  if(decide (120 < ((a0.Events).length:Int)))=true then
   some true
  else
  (sYContainsFunc_int_at_directory_Check_1 a0.Kinds).bind fun y12=>
  some y12) fun v1=>
 if v1=true then
  some 30
 else
 (iter (directory_Check_l0 a0) (0,0)).bind fun q11=>
 match q11 with
 | .inl v2=>
  some 0
 | .inr r10=>
  some r10
noncomputable def access_among (a0:Int) (a1:Int) (a2:Int):Option (Bool):=
 (some ((decide (a1≤a0))&&(decide (a0≤a2)))).bind fun v1=>
 some v1
noncomputable def access_Content (a0:Int):Option (Bool):=
 (access_among a0 0 63).bind fun y1=>
 some y1
noncomputable def access_Place (a0:api_Estate) (a1:Int):Option (Bool):=
 (access_among a1 0 (IntKind.i64.wrap (a0.Places - 1))).bind fun y1=>
 some y1
noncomputable def access_right_j0 (a0:api_Estate) (a1:api_Access) (v1:Bool×Int×Int×Int×Int):Option Bool:=
 Option.bind (
  if v1.1=true then
   (access_Place a0 a1.Place).bind fun y3=>
   if y3=true then
    some ((a1.Time==a1.Time)&&((a1.Kind==a1.Kind)&&((a1.Place==a1.Place)&&((a1.Principal==v1.2.1)&&((a1.Until==v1.2.2.1)&&((a1.Content==v1.2.2.2.1)&&(a1.From==v1.2.2.2.2)))))))
   else
    some false
  else
   some false) fun v2=>
 some v2
noncomputable def access_right_j2 (a1:api_Access) (a0:api_Estate) (v7:Bool):Option Bool:=
 if v7=true then
  (access_Content a1.Content).bind fun y8=>
  access_right_j0 a0 a1 (y8,0,0,a1.Content,0)
 else
 if(a1.Kind==7)=true then
  Option.bind (
   (access_Place a0 a1.From).bind fun y10=>
   if y10=true then
    some (a1.From != a1.Place)
   else
    some false) fun v9=>
  access_right_j0 a0 a1 (v9,0,0,0,a1.From)
 else
  access_right_j0 a0 a1 (false,0,0,0,0)
noncomputable def access_right_j1 (a1:api_Access) (a0:api_Estate) (v4:Bool):Option Bool:=
 if v4=true then
  (access_among a1.Principal 0 23).bind fun y5=>
  access_right_j0 a0 a1 (y5,a1.Principal,0,0,0)
 else
 if(a1.Kind==3)=true then
  (some ((decide (a1.Time < a1.Until))&&(decide (a1.Until≤1099511627776)))).bind fun v6=>
  access_right_j0 a0 a1 (v6,0,a1.Until,0,0)
 else
 if(a1.Kind==4)=true then
  access_right_j0 a0 a1 (true,0,0,0,0)
 else
 if(a1.Kind==5)=true then
  access_right_j2 a1 a0 (a1.Kind==5)
 else
  access_right_j2 a1 a0 (a1.Kind==6)
noncomputable def access_right (a0:api_Estate) (a1:api_Access):Option (Bool):=
 if(a1.Kind==1)=true then
  access_right_j1 a1 a0 (a1.Kind==1)
 else
  access_right_j1 a1 a0 (a1.Kind==2)
noncomputable def access_Check_l0 (a0:api_Estate) (s3:Int×Int):Option (Lp (Int×Int) (Unit ⊕ Int)):=
 if(decide (s3.2 < ((a0.Events).length:Int)))=true then
  (idx a0.Events s3.2).bind fun x4=>
  Option.bind (
   if(decide (x4.Time < s3.1))=true then
    some true
   else
   if(decide (1099511627776 < x4.Time))=true then
    some true
   else
   (access_right a0 x4).bind fun y6=>
   some (!y6)) fun v5=>
  if v5=true then
   some (.out (.inr 34))
  else
   some (.go (x4.Time,IntKind.i64.wrap (s3.2+1)))
 else
  some (.out (.inl ()))
noncomputable def access_Check (a0:api_Estate):Option (Int):=
 Option.bind (
  (access_among a0.Places 1 16).bind fun y9=>
  if(!y9)=true then
   some true
  else
   some (decide (120 < ((a0.Events).length:Int)))) fun v1=>
 if v1=true then
  some 34
 else
 (iter (access_Check_l0 a0) (0,0)).bind fun q8=>
 match q8 with
 | .inl v2=>
  some 0
 | .inr r7=>
  some r7
noncomputable def copies_bit (a0:Int):Option (Int):=
 (ck (¬a0 < 0)).bind fun _=>
 some (IntKind.u64.wrap (1 * 2 ^ (min (Int.toNat a0) IntKind.u64.bits)))
noncomputable def access_known (a0:api_Estate) (a1:Int):Option (Bool):=
 Option.bind (
  (access_Check a0).bind fun y2=>
  if(y2==0)=true then
   (access_Place a0 a1).bind fun y3=>
   some y3
  else
   some false) fun v1=>
 some v1
noncomputable def directory_known (a0:api_Directory) (a1:Int):Option (Bool):=
 Option.bind (
  (directory_Check a0).bind fun y2=>
  if(y2==0)=true then
   (directory_exists a0 a1).bind fun y3=>
   some y3
  else
   some false) fun v1=>
 some v1
noncomputable def access_grants_l0 (a0:api_Estate) (a2:Int) (a1:Int) (s2:Int×(List (Int×Int))):Option (Lp (Int×(List (Int×Int))) (List (Int×Int))):=
 if(decide (s2.1 < ((a0.Events).length:Int)))=true then
  (idx a0.Events s2.1).bind fun x3=>
  (some ((decide (a2 < x3.Time))||(x3.Place != a1))).bind fun v4=>
  if v4=true then
   some (.go (IntKind.i64.wrap (s2.1+1),s2.2))
  else
  if(x3.Kind==1)=true then
   some (.go (IntKind.i64.wrap (s2.1+1),(mset inE s2.2 x3.Principal s2.1)))
  else
  if(x3.Kind==2)=true then
   some (.go (IntKind.i64.wrap (s2.1+1),(mdel inE s2.2 x3.Principal)))
  else
   some (.go (IntKind.i64.wrap (s2.1+1),s2.2))
 else
  some (.out s2.2)
noncomputable def access_grants (a0:api_Estate) (a1:Int) (a2:Int):Option ((List (Int×Int))):=
 (iter (access_grants_l0 a0 a2 a1) (0,[])).bind fun v1=>
 some v1
noncomputable def rights_among (a0:Int) (a1:Int) (a2:Int):Option (Bool):=
 (some ((decide (a1≤a0))&&(decide (a0≤a2)))).bind fun v1=>
 some v1
noncomputable def rights_credential (a0:api_Rights) (a1:Int):Option (Bool):=
 (rights_among a1 0 (IntKind.i64.wrap (a0.Credentials - 1))).bind fun y1=>
 some y1
noncomputable def rights_resource (a0:api_Rights) (a1:Int):Option (Bool):=
 (rights_among a1 0 (IntKind.i64.wrap (a0.Resources - 1))).bind fun y1=>
 some y1
noncomputable def rights_Check_1_cb (a0:api_Grant) (a1:api_Rights):Option (Bool×api_Rights):=
 Option.bind (
  (rights_credential a1 a0.Credential).bind fun y2=>
  if(!y2)=true then
   some true
  else
  (rights_resource a1 a0.Resource).bind fun y3=>
  if(!y3)=true then
   some true
  else
  (rights_among a0.Right 1 3).bind fun y4=>
  some (!y4)) fun v1=>
 some (v1,a1)
noncomputable def sYIndexFunc_api_Grant_at_rights_Check_1_b_l0 (a0:List api_Grant) (s2:Int×Int×Int×(List api_Grant)×(List api_Store)×(List api_Mint)):Option (Lp (Int×Int×Int×(List api_Grant)×(List api_Store)×(List api_Mint)) ((Int×Int×(List api_Grant)×(List api_Store)×(List api_Mint)) ⊕ (Int×api_Rights))):=
 if(decide (s2.1 < ((a0).length:Int)))=true then
  (idx a0 s2.1).bind fun x3=>
  (rights_Check_1_cb x3 (⟨s2.2.1,s2.2.2.1,s2.2.2.2.1,s2.2.2.2.2.1,s2.2.2.2.2.2⟩:api_Rights)).bind fun y4=>
  if y4.1=true then
   some (.out (.inr (s2.1,y4.2)))
  else
   some (.go (IntKind.i64.wrap (s2.1+1),y4.2.Credentials,y4.2.Resources,y4.2.Grants,y4.2.Stores,y4.2.Mints))
 else
  some (.out (.inl (s2.2.1,s2.2.2.1,s2.2.2.2.1,s2.2.2.2.2.1,s2.2.2.2.2.2)))
noncomputable def sYIndexFunc_api_Grant_at_rights_Check_1_b (a0:List api_Grant) (b10:api_Rights):Option (Int×api_Rights):=
 (iter (sYIndexFunc_api_Grant_at_rights_Check_1_b_l0 a0) (0,b10.Credentials,b10.Resources,b10.Grants,b10.Stores,b10.Mints)).bind fun q6=>
 match q6 with
 | .inl v1=>
  some ((-1),(⟨v1.1,v1.2.1,v1.2.2.1,v1.2.2.2.1,v1.2.2.2.2⟩:api_Rights))
 | .inr r5=>
  some r5
noncomputable def sYContainsFunc_api_Grant_at_rights_Check_1_b (a0:List api_Grant) (b10:api_Rights):Option (Bool×api_Rights):=
 (sYIndexFunc_api_Grant_at_rights_Check_1_b a0 b10).bind fun y1=>
 some ((decide (0≤y1.1)),y1.2)
noncomputable def rights_Check_2_cb (a0:api_Store) (a1:api_Rights):Option (Bool×api_Rights):=
 Option.bind (
  (rights_credential a1 a0.Credential).bind fun y2=>
  if(!y2)=true then
   some true
  else
  (rights_resource a1 a0.Resource).bind fun y3=>
  some (!y3)) fun v1=>
 some (v1,a1)
noncomputable def sYIndexFunc_api_Store_at_rights_Check_2_b_l0 (a0:List api_Store) (s2:Int×Int×Int×(List api_Grant)×(List api_Store)×(List api_Mint)):Option (Lp (Int×Int×Int×(List api_Grant)×(List api_Store)×(List api_Mint)) ((Int×Int×(List api_Grant)×(List api_Store)×(List api_Mint)) ⊕ (Int×api_Rights))):=
 if(decide (s2.1 < ((a0).length:Int)))=true then
  (idx a0 s2.1).bind fun x3=>
  (rights_Check_2_cb x3 (⟨s2.2.1,s2.2.2.1,s2.2.2.2.1,s2.2.2.2.2.1,s2.2.2.2.2.2⟩:api_Rights)).bind fun y4=>
  if y4.1=true then
   some (.out (.inr (s2.1,y4.2)))
  else
   some (.go (IntKind.i64.wrap (s2.1+1),y4.2.Credentials,y4.2.Resources,y4.2.Grants,y4.2.Stores,y4.2.Mints))
 else
  some (.out (.inl (s2.2.1,s2.2.2.1,s2.2.2.2.1,s2.2.2.2.2.1,s2.2.2.2.2.2)))
noncomputable def sYIndexFunc_api_Store_at_rights_Check_2_b (a0:List api_Store) (b10:api_Rights):Option (Int×api_Rights):=
 (iter (sYIndexFunc_api_Store_at_rights_Check_2_b_l0 a0) (0,b10.Credentials,b10.Resources,b10.Grants,b10.Stores,b10.Mints)).bind fun q6=>
 match q6 with
 | .inl v1=>
  some ((-1),(⟨v1.1,v1.2.1,v1.2.2.1,v1.2.2.2.1,v1.2.2.2.2⟩:api_Rights))
 | .inr r5=>
  some r5
noncomputable def sYContainsFunc_api_Store_at_rights_Check_2_b (a0:List api_Store) (b10:api_Rights):Option (Bool×api_Rights):=
 (sYIndexFunc_api_Store_at_rights_Check_2_b a0 b10).bind fun y1=>
 some ((decide (0≤y1.1)),y1.2)
noncomputable def rights_Check_3_cb (a0:api_Mint) (a1:api_Rights):Option (Bool×api_Rights):=
 Option.bind (
  (rights_credential a1 a0.From).bind fun y2=>
  if(!y2)=true then
   some true
  else
  (rights_credential a1 a0.To).bind fun y3=>
  some (!y3)) fun v1=>
 some (v1,a1)
noncomputable def sYIndexFunc_api_Mint_at_rights_Check_3_b_l0 (a0:List api_Mint) (s2:Int×Int×Int×(List api_Grant)×(List api_Store)×(List api_Mint)):Option (Lp (Int×Int×Int×(List api_Grant)×(List api_Store)×(List api_Mint)) ((Int×Int×(List api_Grant)×(List api_Store)×(List api_Mint)) ⊕ (Int×api_Rights))):=
 if(decide (s2.1 < ((a0).length:Int)))=true then
  (idx a0 s2.1).bind fun x3=>
  (rights_Check_3_cb x3 (⟨s2.2.1,s2.2.2.1,s2.2.2.2.1,s2.2.2.2.2.1,s2.2.2.2.2.2⟩:api_Rights)).bind fun y4=>
  if y4.1=true then
   some (.out (.inr (s2.1,y4.2)))
  else
   some (.go (IntKind.i64.wrap (s2.1+1),y4.2.Credentials,y4.2.Resources,y4.2.Grants,y4.2.Stores,y4.2.Mints))
 else
  some (.out (.inl (s2.2.1,s2.2.2.1,s2.2.2.2.1,s2.2.2.2.2.1,s2.2.2.2.2.2)))
noncomputable def sYIndexFunc_api_Mint_at_rights_Check_3_b (a0:List api_Mint) (b10:api_Rights):Option (Int×api_Rights):=
 (iter (sYIndexFunc_api_Mint_at_rights_Check_3_b_l0 a0) (0,b10.Credentials,b10.Resources,b10.Grants,b10.Stores,b10.Mints)).bind fun q6=>
 match q6 with
 | .inl v1=>
  some ((-1),(⟨v1.1,v1.2.1,v1.2.2.1,v1.2.2.2.1,v1.2.2.2.2⟩:api_Rights))
 | .inr r5=>
  some r5
noncomputable def sYContainsFunc_api_Mint_at_rights_Check_3_b (a0:List api_Mint) (b10:api_Rights):Option (Bool×api_Rights):=
 (sYIndexFunc_api_Mint_at_rights_Check_3_b a0 b10).bind fun y1=>
 some ((decide (0≤y1.1)),y1.2)
noncomputable def rights_Check (a0:api_Rights):Option (Int):=
 Option.bind (
  (rights_among a0.Credentials 0 24).bind fun y7=>
  if(!y7)=true then
   some true
  else
  (rights_among a0.Resources 0 24).bind fun y8=>
  some (!y8)) fun v1=>
 if v1=true then
  some 32
 else
 (some ((decide (100 < ((a0.Grants).length:Int)))||((decide (100 < ((a0.Stores).length:Int)))||(decide (100 < ((a0.Mints).length:Int)))))).bind fun v2=>
 if v2=true then
  some 32
 else
 Option.bind (
  (sYContainsFunc_api_Grant_at_rights_Check_1_b a0.Grants a0).bind fun y4=>
  if y4.1=true then
   some true
  else
  (sYContainsFunc_api_Store_at_rights_Check_2_b y4.2.Stores y4.2).bind fun y5=>
  if y5.1=true then
   some true
  else
  (sYContainsFunc_api_Mint_at_rights_Check_3_b y5.2.Mints y5.2).bind fun y6=>
  some y6.1) fun v3=>
 if v3=true then
  some 32
 else
  some 0
noncomputable def rights_links_l2 (a0:api_Rights) (x4:api_Grant) (a1:Int) (s3:Int×(List api_Link)) (s6:Int×(List api_Link)):Option (Lp (Int×(List api_Link)) (List api_Link)):=
 if(decide (s6.1 < ((a0.Stores).length:Int)))=true then
  (idx a0.Stores s6.1).bind fun x7=>
  (some ((x4.Credential==a1)&&(x7.Resource==x4.Resource))).bind fun v8=>
  if v8=true then
   (ck ((s6.2).length+([(⟨1,s3.1,s6.1,(-1)⟩:api_Link)]).length≤268435456)).bind fun _=>
   some (.go (IntKind.i64.wrap (s6.1+1),(s6.2++[(⟨1,s3.1,s6.1,(-1)⟩:api_Link)])))
  else
   some (.go (IntKind.i64.wrap (s6.1+1),s6.2))
 else
  some (.out s6.2)
noncomputable def rights_links_l1 (a0:api_Rights) (a1:Int) (s3:Int×(List api_Link)):Option (Lp (Int×(List api_Link)) (List api_Link)):=
 if(decide (s3.1 < ((a0.Grants).length:Int)))=true then
  (idx a0.Grants s3.1).bind fun x4=>
  (iter (rights_links_l2 a0 x4 a1 s3) (0,s3.2)).bind fun v5=>
  some (.go (IntKind.i64.wrap (s3.1+1),v5))
 else
  some (.out s3.2)
noncomputable def rights_links_l0 (a0:api_Rights) (a1:Int) (s9:Int×(List api_Link)):Option (Lp (Int×(List api_Link)) (List api_Link)):=
 if(decide (s9.1 < ((a0.Mints).length:Int)))=true then
  (idx a0.Mints s9.1).bind fun x10=>
  if(x10.From==a1)=true then
   (ck ((s9.2).length+([(⟨2,(-1),(-1),s9.1⟩:api_Link)]).length≤268435456)).bind fun _=>
   some (.go (IntKind.i64.wrap (s9.1+1),(s9.2++[(⟨2,(-1),(-1),s9.1⟩:api_Link)])))
  else
   some (.go (IntKind.i64.wrap (s9.1+1),s9.2))
 else
  some (.out s9.2)
noncomputable def rights_links (a0:api_Rights) (a1:Int):Option ((List api_Link)):=
 (iter (rights_links_l0 a0 a1) (0,[])).bind fun v1=>
 (iter (rights_links_l1 a0 a1) (0,v1)).bind fun v2=>
 some v2
noncomputable def rights_follow (a0:api_Rights) (a1:Int) (a2:api_Link):Option (Int×Bool):=
 Option.bind (
  if(a2.Kind==2)=true then
   if(a2.Grant==(-1))=true then
    if(a2.Store==(-1))=true then
     (rights_among a2.Mint 0 (IntKind.i64.wrap (((a0.Mints).length:Int) - 1))).bind fun y9=>
     if y9=true then
      (idx a0.Mints a2.Mint).bind fun x10=>
      some (x10.From==a1)
     else
      some false
    else
     some false
   else
    some false
  else
   some false) fun v1=>
 if v1=true then
  (idx a0.Mints a2.Mint).bind fun x2=>
  some (x2.To,true)
 else
 Option.bind (
  if(a2.Kind==1)=true then
   if(a2.Mint==(-1))=true then
    (rights_among a2.Grant 0 (IntKind.i64.wrap (((a0.Grants).length:Int) - 1))).bind fun y5=>
    if y5=true then
     (rights_among a2.Store 0 (IntKind.i64.wrap (((a0.Stores).length:Int) - 1))).bind fun y6=>
     if y6=true then
      (idx a0.Grants a2.Grant).bind fun x7=>
      if(x7.Credential==a1)=true then
       (idx a0.Stores a2.Store).bind fun x8=>
       some (x8.Resource==x7.Resource)
      else
       some false
     else
      some false
    else
     some false
   else
    some false
  else
   some false) fun v3=>
 if v3=true then
  (idx a0.Stores a2.Store).bind fun x4=>
  some (x4.Credential,true)
 else
  some (0,false)
end Go.Vl
namespace Go.Vl
open Go Go.Proofs
theorem directory_Check_1_ok {a0:Int} {r:Bool} (h0:directory_Check_1 a0=some r):FnOK Tryd.prog 74 [] [.d (.int .i64 a0)] (.d (.bool r)) []:=by
 unfold directory_Check_1 at h0
 refine fn_ok (nt:=9) (rs:=[.tmp 2]) Tryd.func74 rfl Tryd.ntmps74 rfl (by simp) (by decide) rfl fun K=>?_
 refine kr [0] (by simp;rfl) ?_
 replace h0:=bnd h0;obtain⟨v1,hvv1,h0⟩:=h0
 refine sjv (fun v1_:Bool=>({ nt:=9,env:=[(2,.d (.bool v1_))],box:=[],vec:=[]}:St)) (fun v1_=>v1=v1_) (fun v1_ e=>?_) ?_
 ·subst e
  cases h0
  exact trr ⟨[],by simp,rfl,by simp⟩
 ·refine kc1 ?_
  refine ko [0,5] 3 (by simp;rfl) ?_
  refine tops_split 5 (decide (a0 < 1)) (by simp) (fun c3=>?_) (fun c3=>?_)
  ·rw[c3] at hvv1
   refine ko [2] 4 (by simp;rfl) ?_
   refine tpN ?_
   cases hvv1
   exact⟨_,rfl,wk (by simp[wkI])⟩
  ·rw[c3] at hvv1
   refine ko [2] 4 (by simp;rfl) ?_
   refine tpN ?_
   cases hvv1
   exact⟨_,rfl,wk (by simp[wkI])⟩
theorem directory_exists_ok {a0:api_Directory} {a1:Int} {r:Bool} (h0:directory_exists a0 a1=some r):FnOK Tryd.prog 75 [] [.agg (api_Directory_av a0),.d (.int .i64 a1)] (.d (.bool r)) []:=by
 unfold directory_exists at h0
 refine fn_ok (nt:=14) (rs:=[.tmp 4]) Tryd.func75 rfl Tryd.ntmps75 rfl (by simp) (by decide) rfl fun K=>?_
 refine kr [1,2] (by simp;rfl) ?_
 replace h0:=bnd h0;obtain⟨v1,hvv1,h0⟩:=h0
 refine sjv (fun v1_:Bool=>({ nt:=14,env:=[(4,.d (.bool v1_))],box:=[],vec:=[]}:St)) (fun v1_=>v1=v1_) (fun v1_ e=>?_) ?_
 ·subst e
  cases h0
  exact trr ⟨[],by simp,rfl,by simp⟩
 ·refine kc1 ?_
  refine ko [1,2,7] 3 (by simp;rfl) ?_
  refine tops_split 7 (decide (0≤a1)) (by simp) (fun c3=>?_) (fun c3=>?_)
  ·rw[c3] at hvv1
   refine ko [4] 7 (by simp;rfl) ?_
   refine tpN ?_
   cases hvv1
   exact⟨_,rfl,wk (by simp[wkI])⟩
  ·rw[c3] at hvv1
   refine kskip 5 [] (by kernel_rfl) ?_
   refine ko [4] 2 (by simp;rfl) ?_
   refine tpN ?_
   cases hvv1
   exact⟨_,rfl,wk (by simp[wkI])⟩
theorem directory_group_ok {a0:api_Directory} {a1:Int} {r:Bool} (h0:directory_group a0 a1=some r):FnOK Tryd.prog 76 [] [.agg (api_Directory_av a0),.d (.int .i64 a1)] (.d (.bool r)) []:=by
 unfold directory_group at h0
 refine fn_ok (nt:=16) (rs:=[.tmp 4]) Tryd.func76 rfl Tryd.ntmps76 rfl (by simp) (by decide) rfl fun K=>?_
 refine kr [1,2] (by simp;rfl) ?_
 replace h0:=bnd h0;obtain⟨v1,hvv1,h0⟩:=h0
 refine sjv (fun v1_:Bool=>({ nt:=16,env:=[(4,.d (.bool v1_))],box:=[],vec:=[]}:St)) (fun v1_=>v1=v1_) (fun v1_ e=>?_) ?_
 ·subst e
  cases h0
  exact trr ⟨[],by simp,rfl,by simp⟩
 ·refine kc1 ?_
  refine ko [1,2,5,6] 2 (by simp;rfl) ?_
  replace hvv1:=bnd hvv1;obtain⟨y2,hy2,hvv1⟩:=hvv1
  refine kcall [1,2,7] [] (directory_exists_ok hy2) rfl rfl rfl Tryd.call75 (by simp) (by simp;rfl) ?_
  refine ko [1,2,8] 1 (by simp;rfl) ?_
  refine tops_split 8 y2 (by simp) (fun c3=>?_) (fun c3=>?_)
  ·rw[if_pos c3] at hvv1
   replace hvv1:=bnd hvv1;obtain⟨x3,p3,hvv1⟩:=hvv1
   replace p3:=idx_some p3
   have p3':=p3;try simp at p3'
   refine ko [4] 8 (by simp[p3,p3'];rfl) ?_
   refine tpN ?_
   cases hvv1
   exact⟨_,rfl,wk (by simp[wkI])⟩
  ·rw[if_neg (by rw[c3];decide)] at hvv1
   refine kskip 6 [] (by kernel_rfl) ?_
   refine ko [4] 2 (by simp;rfl) ?_
   refine tpN ?_
   cases hvv1
   exact⟨_,rfl,wk (by simp[wkI])⟩
theorem sYIndexFunc_int_at_directory_Check_1_ok {a0:List Int} {r:Int} (h0:sYIndexFunc_int_at_directory_Check_1 a0=some r):FnOK Tryd.prog 44 [] [.d (.slice (rowsF (iRow .i64) a0)),.fn 74 []] (.d (.int .i64 r)) []:=by
 unfold sYIndexFunc_int_at_directory_Check_1 at h0
 refine fn_ok (nt:=19) (rs:=[.tmp 4]) Tryd.func44 rfl Tryd.ntmps44 rfl (by simp) (by decide) rfl fun K=>?_
 refine kr [0,1] (by simp;rfl) ?_
 refine trq ?_
 refine kr [0,1,7,8] (by simp;rfl) ?_
 replace h0:=bnd h0;obtain⟨e1,hI1,h0⟩:=h0
 refine tjv (fun v1:Unit=>({ nt:=19,env:=[],box:=[],vec:=[]}:St)) (fun v1=>.inl v1=e1) (fun v1 hI1e _ W1=>?_) ?_
 ·subst hI1e
  dsimp only at h0
  refine tr_wk W1 ?_
  refine kr [4] (by simp;rfl) ?_
  cases h0
  exact trr ⟨[],by simp,rfl,by simp⟩
 ·refine trb (tr_iter (fun s2:Int=>({ nt:=19,env:=[(0,.d (.slice (rowsF (iRow .i64) a0))),(1,.fn 74 []),(7,.d (.int .i64 ((a0).length:Int))),(8,.d (.int .i64 s2))],box:=[],vec:=[]}:St)) hI1 (wk (by simp[wkI])) fun G1 s2 o1 h1 hg1 he1=>?_)
  unfold sYIndexFunc_int_at_directory_Check_1_l0 at h1
  refine kr [0,1,7,8,9] (by simp;rfl) ?_
  refine trq ?_
  refine trc (b:=(decide (s2 < ((a0).length:Int)))) (by simp) (fun c5=>?_) (fun c5=>?_)
  ·rw[if_pos c5] at h1
   refine trk ?_
   refine trq ?_
   refine trb ?_
   refine kr [0,1,5,7,8] (by simp;rfl) ?_
   refine kc ?_
   replace h1:=bnd h1;obtain⟨x3,p3,h1⟩:=h1
   replace p3:=idx_some p3
   have p3':=p3;try simp at p3'
   refine ko [0,1,5,7,8,11,15] 5 (by simp[p3,p3'];rfl) ?_
   replace h1:=bnd h1;obtain⟨y4,hy4,h1⟩:=h1
   refine kcallV [0,1,5,7,8,16] [] [] [] (directory_Check_1_ok hy4) rfl rfl rfl Tryd.call74 (by simp) (by simp;rfl) ?_
   refine tpN ?_
   refine trc (b:=y4) (by simp) (fun c6=>?_) (fun c6=>?_)
   ·rw[if_pos c6] at h1
    refine kr [4] (by simp;rfl) ?_
    have k1:=he1 _ (Option.some.inj h1)
    subst k1
    dsimp only at h0
    cases h0
    exact trr ⟨[],by simp,rfl,by simp⟩
   ·rw[if_neg (by rw[c6];decide)] at h1
    refine trk ?_
    refine lr (by simp;rfl) ?_
    exact⟨_,hg1 _ (Option.some.inj h1),wk (by simp[wkI])⟩
  ·rw[if_neg (by rw[c5];decide)] at h1
   refine tr_exit ?_
   exact⟨_,he1 _ (Option.some.inj h1),wk (by simp[wkI])⟩
theorem sYContainsFunc_int_at_directory_Check_1_ok {a0:List Int} {r:Bool} (h0:sYContainsFunc_int_at_directory_Check_1 a0=some r):FnOK Tryd.prog 29 [] [.d (.slice (rowsF (iRow .i64) a0)),.fn 74 []] (.d (.bool r)) []:=by
 unfold sYContainsFunc_int_at_directory_Check_1 at h0
 refine fn_ok (nt:=9) (rs:=[.tmp 4]) Tryd.func29 rfl Tryd.ntmps29 rfl (by simp) (by decide) rfl fun K=>?_
 refine kr [0,1] (by simp;rfl) ?_
 refine kc ?_
 refine ko [5,6] 2 (by simp;rfl) ?_
 replace h0:=bnd h0;obtain⟨y1,hy1,h0⟩:=h0
 refine kcall [7] [] (sYIndexFunc_int_at_directory_Check_1_ok hy1) rfl rfl rfl Tryd.call44 (by simp) (by simp;rfl) ?_
 refine ko [4] 2 (by simp;rfl) ?_
 refine tpN ?_
 cases h0
 exact trr ⟨[],by simp,rfl,by simp⟩
theorem directory_Check_ok {a0:api_Directory} {r:Int} (h0:directory_Check a0=some r):FnOK Tryd.prog 55 [] [.agg (api_Directory_av a0)] (.d (.int .i64 r)) []:=by
 unfold directory_Check at h0
 refine fn_ok (nt:=73) (rs:=[.tmp 2]) Tryd.func55 rfl Tryd.ntmps55 rfl (by simp) (by decide) rfl fun K=>?_
 refine kr [1] (by simp;rfl) ?_
 refine kr [1,3] (by simp;rfl) ?_
 refine trq ?_
 replace h0:=bnd h0;obtain⟨v1,hvv1,h0⟩:=h0
 refine sjv (fun v1_:Bool=>({ nt:=73,env:=[(1,.ptr 1 0),(22,.d (.bool v1_))],box:=[(1,[.d (.slice (rowsF (iRow .i64) a0.Kinds)),.d (.slice (rowsF api_Member_row a0.Events))])],vec:=[]}:St)) (fun v1_=>v1=v1_) (fun v1_ e=>?_) ?_
 ·subst e
  refine trc (b:=v1) (by simp) (fun c5=>?_) (fun c5=>?_)
  ·rw[if_pos c5] at h0
   refine kr [2] (by simp;rfl) ?_
   cases h0
   exact trr ⟨[],by simp,rfl,by simp⟩
  ·rw[if_neg (by rw[c5];decide)] at h0
   refine trk ?_
   refine kr [1,4] (by simp;rfl) ?_
   refine trq ?_
   refine kr [1,4,24,25,26] (by simp;rfl) ?_
   replace h0:=bnd h0;obtain⟨e1,hI1,h0⟩:=h0
   refine tjv (fun v2:Unit=>({ nt:=73,env:=[],box:=[],vec:=[]}:St)) (fun v2=>.inl v2=e1) (fun v2 hI1e _ W1=>?_) ?_
   ·subst hI1e
    dsimp only at h0
    refine tr_wk W1 ?_
    refine kr [2] (by simp;rfl) ?_
    cases h0
    exact trr ⟨[],by simp,rfl,by simp⟩
   ·refine trb (tr_iter (fun s3:Int×Int=>({ nt:=73,env:=[(1,.ptr 1 0),(4,.d (.int .i64 s3.1)),(24,.d (.slice (rowsF api_Member_row a0.Events))),(25,.d (.int .i64 ((a0.Events).length:Int))),(26,.d (.int .i64 s3.2))],box:=[(1,[.d (.slice (rowsF (iRow .i64) a0.Kinds)),.d (.slice (rowsF api_Member_row a0.Events))])],vec:=[]}:St)) hI1 (wk (by simp[wkI])) fun G1 s3 o1 h1 hg1 he1=>?_)
    unfold directory_Check_l0 at h1
    refine kr [1,4,24,25,26,27] (by simp;rfl) ?_
    refine trq ?_
    refine trc (b:=(decide (s3.2 < ((a0.Events).length:Int)))) (by simp) (fun c30=>?_) (fun c30=>?_)
    ·rw[if_pos c30] at h1
     refine trk ?_
     refine trq ?_
     refine trb ?_
     replace h1:=bnd h1;obtain⟨x4,p3,h1⟩:=h1
     replace p3:=idx_some p3
     have p3':=p3;try simp at p3'
     refine kr [1,4,6,24,25,26] (by simp[p3,p3'];rfl) ?_
     refine trq ?_
     replace h1:=bnd h1;obtain⟨v5,hvv5,h1⟩:=h1
     refine sjv (fun v5_:Bool=>({ nt:=73,env:=[(1,.ptr 1 0),(6,.ptr 6 0),(24,.d (.slice (rowsF api_Member_row a0.Events))),(25,.d (.int .i64 ((a0.Events).length:Int))),(26,.d (.int .i64 s3.2)),(69,.d (.bool v5_))],box:=[(1,[.d (.slice (rowsF (iRow .i64) a0.Kinds)),.d (.slice (rowsF api_Member_row a0.Events))]),(6,[.d (.int .i64 x4.Time),.d (.int .i64 x4.Kind),.d (.int .i64 x4.Principal),.d (.int .i64 x4.Group)])],vec:=[]}:St)) (fun v5_=>v5=v5_) (fun v5_ e=>?_) ?_
     ·subst e
      refine trc (b:=v5) (by simp) (fun c51=>?_) (fun c51=>?_)
      ·rw[if_pos c51] at h1
       refine kr [2] (by simp;rfl) ?_
       have k1:=he1 _ (Option.some.inj h1)
       subst k1
       dsimp only at h0
       cases h0
       exact trr ⟨[],by simp,rfl,by simp⟩
      ·rw[if_neg (by rw[c51];decide)] at h1
       refine trk ?_
       refine lr (by simp;rfl) ?_
       refine lr (by simp;rfl) ?_
       exact⟨_,hg1 _ (Option.some.inj h1),wk (by simp[wkI])⟩
     ·refine kc1 ?_
      refine ko [1,4,6,24,25,26,33] 4 (by simp;rfl) ?_
      refine tops_split 33 (x4.Kind != 1) (by simp) (fun c52=>?_) (fun c52=>?_)
      ·rw[if_pos c52] at hvv5
       refine ko [1,4,6,24,25,26,34,35,36,38] 5 (by simp;rfl) ?_
       refine tops_split 38 (x4.Kind != 2) (by simp) (fun c53=>?_) (fun c53=>?_)
       ·rw[if_pos c53] at hvv5
        refine kskip 4 [] (by kernel_rfl) ?_
        refine ko [1,6,24,25,26,34,35,36,44] 2 (by simp;rfl) ?_
        refine kskip 3 [] (by kernel_rfl) ?_
        refine ko [1,6,24,25,26,34,35,36,49] 2 (by simp;rfl) ?_
        refine kskip 5 [] (by kernel_rfl) ?_
        refine ko [1,6,24,25,26,34,35,36,56] 2 (by simp;rfl) ?_
        refine kskip 5 [] (by kernel_rfl) ?_
        refine ko [1,6,24,25,26,34,35,36,63] 2 (by simp;rfl) ?_
        refine kskip 5 [] (by kernel_rfl) ?_
        refine ko [1,6,24,25,26,34,35,36,69] 1 (by simp;rfl) ?_
        refine tpN ?_
        cases hvv5
        exact⟨_,rfl,wk (by simp[wkI])⟩
       ·rw[if_neg (by rw[c53];decide)] at hvv5
        refine ko [1,6,24,25,26,34,35,36,39,40,41,42,44] 6 (by simp;rfl) ?_
        refine tops_split 44 (decide (x4.Time < s3.1)) (by simp) (fun c54=>?_) (fun c54=>?_)
        ·rw[if_pos c54] at hvv5
         refine kskip 3 [] (by kernel_rfl) ?_
         refine ko [1,6,24,25,26,34,35,36,39,40,41,42,49] 2 (by simp;rfl) ?_
         refine kskip 5 [] (by kernel_rfl) ?_
         refine ko [1,6,24,25,26,34,35,36,39,40,41,42,56] 2 (by simp;rfl) ?_
         refine kskip 5 [] (by kernel_rfl) ?_
         refine ko [1,6,24,25,26,34,35,36,39,40,41,42,63] 2 (by simp;rfl) ?_
         refine kskip 5 [] (by kernel_rfl) ?_
         refine ko [1,6,24,25,26,34,35,36,39,40,41,42,69] 1 (by simp;rfl) ?_
         refine tpN ?_
         cases hvv5
         exact⟨_,rfl,wk (by simp[wkI])⟩
        ·rw[if_neg (by rw[c54];decide)] at hvv5
         refine ko [1,6,24,25,26,34,35,36,39,40,41,42,45,46,47,49] 5 (by simp;rfl) ?_
         refine tops_split 49 (decide (1099511627776 < x4.Time)) (by simp) (fun c55=>?_) (fun c55=>?_)
         ·rw[if_pos c55] at hvv5
          refine kskip 5 [] (by kernel_rfl) ?_
          refine ko [1,6,24,25,26,34,35,36,39,40,41,42,45,46,47,56] 2 (by simp;rfl) ?_
          refine kskip 5 [] (by kernel_rfl) ?_
          refine ko [1,6,24,25,26,34,35,36,39,40,41,42,45,46,47,63] 2 (by simp;rfl) ?_
          refine kskip 5 [] (by kernel_rfl) ?_
          refine ko [1,6,24,25,26,34,35,36,39,40,41,42,45,46,47,69] 1 (by simp;rfl) ?_
          refine tpN ?_
          cases hvv5
          exact⟨_,rfl,wk (by simp[wkI])⟩
         ·rw[if_neg (by rw[c55];decide)] at hvv5
          refine ko [1,6,24,25,26,34,35,36,39,40,41,42,45,46,47,49,50,51,52] 3 (by simp;rfl) ?_
          replace hvv5:=bnd hvv5;obtain⟨y6,hy6,hvv5⟩:=hvv5
          refine kcall [1,6,24,25,26,34,35,36,39,40,41,42,45,46,47,49,50,51,52,53] [] (directory_exists_ok hy6) rfl rfl rfl Tryd.call75 (by simp) (by simp;rfl) ?_
          refine ko [1,6,24,25,26,34,35,36,39,40,41,42,45,46,47,50,51,52,53,54,56] 3 (by simp;rfl) ?_
          refine tops_split 56 (!y6) (by simp) (fun c56=>?_) (fun c56=>?_)
          ·rw[if_pos c56] at hvv5
           refine kskip 5 [] (by kernel_rfl) ?_
           refine ko [1,6,24,25,26,34,35,36,39,40,41,42,45,46,47,50,51,52,53,54,63] 2 (by simp;rfl) ?_
           refine kskip 5 [] (by kernel_rfl) ?_
           refine ko [1,6,24,25,26,34,35,36,39,40,41,42,45,46,47,50,51,52,53,54,69] 1 (by simp;rfl) ?_
           refine tpN ?_
           cases hvv5
           exact⟨_,rfl,wk (by simp[wkI])⟩
          ·rw[if_neg (by rw[c56];decide)] at hvv5
           refine ko [1,6,24,25,26,34,35,36,39,40,41,42,45,46,47,50,51,52,53,54,56,57,58,59] 3 (by simp;rfl) ?_
           replace hvv5:=bnd hvv5;obtain⟨y7,hy7,hvv5⟩:=hvv5
           refine kcall [1,6,24,25,26,34,35,36,39,40,41,42,45,46,47,50,51,52,53,54,56,57,58,59,60] [] (directory_group_ok hy7) rfl rfl rfl Tryd.call76 (by simp) (by simp;rfl) ?_
           refine ko [1,6,24,25,26,34,35,36,39,40,41,42,45,46,47,50,51,52,53,54,57,58,59,60,61,63] 3 (by simp;rfl) ?_
           refine tops_split 63 (!y7) (by simp) (fun c57=>?_) (fun c57=>?_)
           ·rw[if_pos c57] at hvv5
            refine kskip 5 [] (by kernel_rfl) ?_
            refine ko [1,6,24,25,26,34,35,36,39,40,41,42,45,46,47,50,51,52,53,54,57,58,59,60,61,69] 1 (by simp;rfl) ?_
            refine tpN ?_
            cases hvv5
            exact⟨_,rfl,wk (by simp[wkI])⟩
           ·rw[if_neg (by rw[c57];decide)] at hvv5
            refine ko [1,6,24,25,26,34,35,36,39,40,41,42,45,46,47,50,51,52,53,54,57,58,59,60,61,64,65,66,67,68,69] 6 (by simp;rfl) ?_
            refine tpN ?_
            cases hvv5
            exact⟨_,rfl,wk (by simp[wkI])⟩
      ·rw[if_neg (by rw[c52];decide)] at hvv5
       refine kskip 3 [] (by kernel_rfl) ?_
       refine ko [1,6,24,25,26,39,40,41,42,44] 8 (by simp;rfl) ?_
       refine tops_split 44 (decide (x4.Time < s3.1)) (by simp) (fun c58=>?_) (fun c58=>?_)
       ·rw[if_pos c58] at hvv5
        refine kskip 3 [] (by kernel_rfl) ?_
        refine ko [1,6,24,25,26,39,40,41,42,49] 2 (by simp;rfl) ?_
        refine kskip 5 [] (by kernel_rfl) ?_
        refine ko [1,6,24,25,26,39,40,41,42,56] 2 (by simp;rfl) ?_
        refine kskip 5 [] (by kernel_rfl) ?_
        refine ko [1,6,24,25,26,39,40,41,42,63] 2 (by simp;rfl) ?_
        refine kskip 5 [] (by kernel_rfl) ?_
        refine ko [1,6,24,25,26,39,40,41,42,69] 1 (by simp;rfl) ?_
        refine tpN ?_
        cases hvv5
        exact⟨_,rfl,wk (by simp[wkI])⟩
       ·rw[if_neg (by rw[c58];decide)] at hvv5
        refine ko [1,6,24,25,26,39,40,41,42,45,46,47,49] 5 (by simp;rfl) ?_
        refine tops_split 49 (decide (1099511627776 < x4.Time)) (by simp) (fun c59=>?_) (fun c59=>?_)
        ·rw[if_pos c59] at hvv5
         refine kskip 5 [] (by kernel_rfl) ?_
         refine ko [1,6,24,25,26,39,40,41,42,45,46,47,56] 2 (by simp;rfl) ?_
         refine kskip 5 [] (by kernel_rfl) ?_
         refine ko [1,6,24,25,26,39,40,41,42,45,46,47,63] 2 (by simp;rfl) ?_
         refine kskip 5 [] (by kernel_rfl) ?_
         refine ko [1,6,24,25,26,39,40,41,42,45,46,47,69] 1 (by simp;rfl) ?_
         refine tpN ?_
         cases hvv5
         exact⟨_,rfl,wk (by simp[wkI])⟩
        ·rw[if_neg (by rw[c59];decide)] at hvv5
         refine ko [1,6,24,25,26,39,40,41,42,45,46,47,49,50,51,52] 3 (by simp;rfl) ?_
         replace hvv5:=bnd hvv5;obtain⟨y8,hy8,hvv5⟩:=hvv5
         refine kcall [1,6,24,25,26,39,40,41,42,45,46,47,49,50,51,52,53] [] (directory_exists_ok hy8) rfl rfl rfl Tryd.call75 (by simp) (by simp;rfl) ?_
         refine ko [1,6,24,25,26,39,40,41,42,45,46,47,50,51,52,53,54,56] 3 (by simp;rfl) ?_
         refine tops_split 56 (!y8) (by simp) (fun c60=>?_) (fun c60=>?_)
         ·rw[if_pos c60] at hvv5
          refine kskip 5 [] (by kernel_rfl) ?_
          refine ko [1,6,24,25,26,39,40,41,42,45,46,47,50,51,52,53,54,63] 2 (by simp;rfl) ?_
          refine kskip 5 [] (by kernel_rfl) ?_
          refine ko [1,6,24,25,26,39,40,41,42,45,46,47,50,51,52,53,54,69] 1 (by simp;rfl) ?_
          refine tpN ?_
          cases hvv5
          exact⟨_,rfl,wk (by simp[wkI])⟩
         ·rw[if_neg (by rw[c60];decide)] at hvv5
          refine ko [1,6,24,25,26,39,40,41,42,45,46,47,50,51,52,53,54,56,57,58,59] 3 (by simp;rfl) ?_
          replace hvv5:=bnd hvv5;obtain⟨y9,hy9,hvv5⟩:=hvv5
          refine kcall [1,6,24,25,26,39,40,41,42,45,46,47,50,51,52,53,54,56,57,58,59,60] [] (directory_group_ok hy9) rfl rfl rfl Tryd.call76 (by simp) (by simp;rfl) ?_
          refine ko [1,6,24,25,26,39,40,41,42,45,46,47,50,51,52,53,54,57,58,59,60,61,63] 3 (by simp;rfl) ?_
          refine tops_split 63 (!y9) (by simp) (fun c61=>?_) (fun c61=>?_)
          ·rw[if_pos c61] at hvv5
           refine kskip 5 [] (by kernel_rfl) ?_
           refine ko [1,6,24,25,26,39,40,41,42,45,46,47,50,51,52,53,54,57,58,59,60,61,69] 1 (by simp;rfl) ?_
           refine tpN ?_
           cases hvv5
           exact⟨_,rfl,wk (by simp[wkI])⟩
          ·rw[if_neg (by rw[c61];decide)] at hvv5
           refine ko [1,6,24,25,26,39,40,41,42,45,46,47,50,51,52,53,54,57,58,59,60,61,64,65,66,67,68,69] 6 (by simp;rfl) ?_
           refine tpN ?_
           cases hvv5
           exact⟨_,rfl,wk (by simp[wkI])⟩
    ·rw[if_neg (by rw[c30];decide)] at h1
     refine tr_exit ?_
     exact⟨_,he1 _ (Option.some.inj h1),wk (by simp[wkI])⟩
 ·refine kc1 ?_
  refine ko [1,3,11] 5 (by simp;rfl) ?_
  refine tops_split 11 (decide (24 < ((a0.Kinds).length:Int))) (by simp) (fun c62=>?_) (fun c62=>?_)
  ·rw[if_pos c62] at hvv1
   refine kskip 4 [] (by kernel_rfl) ?_
   refine ko [1,3,17] 2 (by simp;rfl) ?_
   refine kskip 4 [] (by kernel_rfl) ?_
   refine ko [1,22] 1 (by simp;rfl) ?_
   refine tpN ?_
   cases hvv1
   exact⟨_,rfl,wk (by simp[wkI])⟩
  ·rw[if_neg (by rw[c62];decide)] at hvv1
   refine ko [1,3,17] 6 (by simp;rfl) ?_
   refine tops_split 17 (decide (120 < ((a0.Events).length:Int))) (by simp) (fun c63=>?_) (fun c63=>?_)
   ·rw[if_pos c63] at hvv1
    refine kskip 4 [] (by kernel_rfl) ?_
    refine ko [1,22] 1 (by simp;rfl) ?_
    refine tpN ?_
    cases hvv1
    exact⟨_,rfl,wk (by simp[wkI])⟩
   ·rw[if_neg (by rw[c63];decide)] at hvv1
    refine ko [1,17,19,20] 3 (by simp;rfl) ?_
    replace hvv1:=bnd hvv1;obtain⟨y12,hy12,hvv1⟩:=hvv1
    refine kcall [1,17,21] [] (sYContainsFunc_int_at_directory_Check_1_ok hy12) rfl rfl rfl Tryd.call29 (by simp) (by simp;rfl) ?_
    refine ko [1,22] 1 (by simp;rfl) ?_
    refine tpN ?_
    cases hvv1
    exact⟨_,rfl,wk (by simp[wkI])⟩
theorem access_among_ok {a0:Int} {a1:Int} {a2:Int} {r:Bool} (h0:access_among a0 a1 a2=some r):FnOK Tryd.prog 57 [] [.d (.int .i64 a0),.d (.int .i64 a1),.d (.int .i64 a2)] (.d (.bool r)) []:=by
 unfold access_among at h0
 refine fn_ok (nt:=15) (rs:=[.tmp 6]) Tryd.func57 rfl Tryd.ntmps57 rfl (by simp) (by decide) rfl fun K=>?_
 refine kr [0,1,2] (by simp;rfl) ?_
 replace h0:=bnd h0;obtain⟨v1,hvv1,h0⟩:=h0
 refine sjv (fun v1_:Bool=>({ nt:=15,env:=[(6,.d (.bool v1_))],box:=[],vec:=[]}:St)) (fun v1_=>v1=v1_) (fun v1_ e=>?_) ?_
 ·subst e
  cases h0
  exact trr ⟨[],by simp,rfl,by simp⟩
 ·refine kc1 ?_
  refine ko [0,2,10] 4 (by simp;rfl) ?_
  refine tops_split 10 (decide (a1≤a0)) (by simp) (fun c3=>?_) (fun c3=>?_)
  ·rw[c3] at hvv1
   refine ko [6] 5 (by simp;rfl) ?_
   refine tpN ?_
   cases hvv1
   exact⟨_,rfl,wk (by simp[wkI])⟩
  ·rw[c3] at hvv1
   refine kskip 3 [] (by kernel_rfl) ?_
   refine ko [6] 2 (by simp;rfl) ?_
   refine tpN ?_
   cases hvv1
   exact⟨_,rfl,wk (by simp[wkI])⟩
theorem access_Content_ok {a0:Int} {r:Bool} (h0:access_Content a0=some r):FnOK Tryd.prog 47 [] [.d (.int .i64 a0)] (.d (.bool r)) []:=by
 unfold access_Content at h0
 refine fn_ok (nt:=5) (rs:=[.tmp 2]) Tryd.func47 rfl Tryd.ntmps47 rfl (by simp) (by decide) rfl fun K=>?_
 refine kr [0] (by simp;rfl) ?_
 refine kc ?_
 refine ko [3] 1 (by simp;rfl) ?_
 replace h0:=bnd h0;obtain⟨y1,hy1,h0⟩:=h0
 refine kcall [4] [] (access_among_ok hy1) rfl rfl rfl Tryd.call57 (by simp) (by simp;rfl) ?_
 refine ko [2] 1 (by simp;rfl) ?_
 refine tpN ?_
 cases h0
 exact trr ⟨[],by simp,rfl,by simp⟩
theorem access_Place_ok {a0:api_Estate} {a1:Int} {r:Bool} (h0:access_Place a0 a1=some r):FnOK Tryd.prog 90 [] [.agg (api_Estate_av a0),.d (.int .i64 a1)] (.d (.bool r)) []:=by
 unfold access_Place at h0
 refine fn_ok (nt:=10) (rs:=[.tmp 4]) Tryd.func90 rfl Tryd.ntmps90 rfl (by simp) (by decide) rfl fun K=>?_
 refine kr [1,2] (by simp;rfl) ?_
 refine kc ?_
 refine ko [5,8] 4 (by simp;rfl) ?_
 replace h0:=bnd h0;obtain⟨y1,hy1,h0⟩:=h0
 refine kcall [9] [] (access_among_ok hy1) rfl rfl rfl Tryd.call57 (by simp) (by simp;rfl) ?_
 refine ko [4] 1 (by simp;rfl) ?_
 refine tpN ?_
 cases h0
 exact trr ⟨[],by simp,rfl,by simp⟩
theorem access_right_ok {a0:api_Estate} {a1:api_Access} {r:Bool} (h0:access_right a0 a1=some r):FnOK Tryd.prog 77 [] [.agg (api_Estate_av a0),.agg (api_Access_av a1)] (.d (.bool r)) []:=by
 unfold access_right at h0
 refine fn_ok (nt:=79) (rs:=[.tmp 4]) Tryd.func77 rfl Tryd.ntmps77 rfl (by simp) (by decide) rfl fun K=>?_
 refine kr [2,3] (by simp;rfl) ?_
 refine kr [2,3,5] (by simp;rfl) ?_
 refine kr [2,3,5,6] (by simp;rfl) ?_
 refine sjv (fun v1:Bool×Int×Int×Int×Int=>({ nt:=79,env:=[(2,.ptr 2 0),(3,.ptr 3 0),(5,.ptr 5 0),(6,.d (.bool v1.1))],box:=[(2,[.d (.int .i64 a0.Places),.d (.slice (rowsF api_Access_row a0.Events))]),(3,[.d (.int .i64 a1.Time),.d (.int .i64 a1.Kind),.d (.int .i64 a1.Place),.d (.int .i64 a1.Principal),.d (.int .i64 a1.Until),.d (.int .i64 a1.Content),.d (.int .i64 a1.From)]),(5,[.d (.int .i64 a1.Time),.d (.int .i64 a1.Kind),.d (.int .i64 a1.Place),.d (.int .i64 v1.2.1),.d (.int .i64 v1.2.2.1),.d (.int .i64 v1.2.2.2.1),.d (.int .i64 v1.2.2.2.2)])],vec:=[]}:St)) (fun v1=>access_right_j0 a0 a1 v1=some r) (fun v1 h0=>?_) ?_
 ·unfold access_right_j0 at h0
  replace h0:=bnd h0;obtain⟨v2,hvv2,h0⟩:=h0
  refine sjv (fun v2_:Bool=>({ nt:=79,env:=[(4,.d (.bool v2_))],box:=[],vec:=[]}:St)) (fun v2_=>v2=v2_) (fun v2_ e=>?_) ?_
  ·subst e
   cases h0
   exact trr ⟨[],by simp,rfl,by simp⟩
  ·refine kc1 ?_
   refine ko [2,3,5,68] 2 (by simp;rfl) ?_
   refine tops_split 68 v1.1 (by simp) (fun c18=>?_) (fun c18=>?_)
   ·rw[if_pos c18] at hvv2
    refine ko [3,5,68,69,71] 3 (by simp;rfl) ?_
    replace hvv2:=bnd hvv2;obtain⟨y3,hy3,hvv2⟩:=hvv2
    refine kcall [3,5,68,72] [] (access_Place_ok hy3) rfl rfl rfl Tryd.call90 (by simp) (by simp;rfl) ?_
    refine ko [3,5,74] 2 (by simp;rfl) ?_
    refine tops_split 74 y3 (by simp) (fun c19=>?_) (fun c19=>?_)
    ·rw[if_pos c19] at hvv2
     refine ko [4] 5 (by simp;rfl) ?_
     refine tpN ?_
     cases hvv2
     exact⟨_,rfl,wk (by simp[wkI])⟩
    ·rw[if_neg (by rw[c19];decide)] at hvv2
     refine kskip 3 [] (by kernel_rfl) ?_
     refine ko [4] 2 (by simp;rfl) ?_
     refine tpN ?_
     cases hvv2
     exact⟨_,rfl,wk (by simp[wkI])⟩
   ·rw[if_neg (by rw[c18];decide)] at hvv2
    refine kskip 4 [] (by kernel_rfl) ?_
    refine ko [3,5,74] 2 (by simp;rfl) ?_
    refine kskip 3 [] (by kernel_rfl) ?_
    refine ko [4] 2 (by simp;rfl) ?_
    refine tpN ?_
    cases hvv2
    exact⟨_,rfl,wk (by simp[wkI])⟩
 ·refine kr [2,3,5,6,15] (by simp;rfl) ?_
  refine trb ?_
  refine sjv (fun v4:Bool=>({ nt:=79,env:=[(2,.ptr 2 0),(3,.ptr 3 0),(5,.ptr 5 0),(6,.d (.bool false)),(15,.d (.int .i64 a1.Kind)),(16,.d (.bool v4))],box:=[(2,[.d (.int .i64 a0.Places),.d (.slice (rowsF api_Access_row a0.Events))]),(3,[.d (.int .i64 a1.Time),.d (.int .i64 a1.Kind),.d (.int .i64 a1.Place),.d (.int .i64 a1.Principal),.d (.int .i64 a1.Until),.d (.int .i64 a1.Content),.d (.int .i64 a1.From)]),(5,[.d (.int .i64 a1.Time),.d (.int .i64 a1.Kind),.d (.int .i64 a1.Place),.d (.int .i64 0),.d (.int .i64 0),.d (.int .i64 0),.d (.int .i64 0)])],vec:=[]}:St)) (fun v4=>access_right_j1 a1 a0 v4=some r) (fun v4 h0=>?_) ?_
  ·unfold access_right_j1 at h0
   refine trc (b:=v4) (by simp) (fun c21=>?_) (fun c21=>?_)
   ·rw[if_pos c21] at h0
    refine kd1 [[],[0],[],[2],[3],[],[1,5],[4]] [6] [(5,[6])] none [] 8 fol (by decide +kernel) (by simp) ?_
    refine dr_go 0 2 rfl (by simp (maxSteps:=1000000);rfl) ?_
    refine dr_go 2 2 rfl (by simp (maxSteps:=1000000);rfl) ?_
    replace h0:=bnd h0;obtain⟨y5,hy5,h0⟩:=h0
    refine dr_call 4 [] (access_among_ok hy5) rfl rfl rfl rfl rfl Tryd.call57 (by simp) ?_
    refine dr_go 5 2 rfl (by simp (maxSteps:=1000000);rfl) ?_
    refine dr_go 7 1 rfl (by simp (maxSteps:=1000000);rfl) ?_
    refine dr_end rfl (tpN ?_)
    exact⟨_,h0,wk (by simp[wkI])⟩
   ·rw[if_neg (by rw[c21];decide)] at h0
    refine kr [2,3,5,6,15,25] (by simp;rfl) ?_
    refine trc (b:=(a1.Kind==3)) (by simp) (fun c22=>?_) (fun c22=>?_)
    ·rw[if_pos c22] at h0
     replace h0:=bnd h0;obtain⟨v6,hvv6,h0⟩:=h0
     refine tjv (fun v6_:Bool=>({ nt:=79,env:=[(2,.ptr 2 0),(3,.ptr 3 0),(5,.ptr 5 0),(6,.d (.bool v6_))],box:=[(2,[.d (.int .i64 a0.Places),.d (.slice (rowsF api_Access_row a0.Events))]),(3,[.d (.int .i64 a1.Time),.d (.int .i64 a1.Kind),.d (.int .i64 a1.Place),.d (.int .i64 a1.Principal),.d (.int .i64 a1.Until),.d (.int .i64 a1.Content),.d (.int .i64 a1.From)]),(5,[.d (.int .i64 a1.Time),.d (.int .i64 a1.Kind),.d (.int .i64 a1.Place),.d (.int .i64 0),.d (.int .i64 a1.Until),.d (.int .i64 0),.d (.int .i64 0)])],vec:=[]}:St)) (fun v6_=>v6=v6_) (fun v6_ e _ Wv6=>?_) ?_
     ·subst e
      exact⟨_,h0,Wk.trans (Wv6) (wk (by simp[wkI]))⟩
     ·refine kd1 [[],[0],[],[2],[],[4],[3,5],[6],[7],[7,8],[7,9],[7,10],[],[1,12],[11]] [13] [(5,[13])] none [] 15 fol (by decide +kernel) (by simp) ?_
      refine dr_go 0 2 rfl (by simp (maxSteps:=1000000);rfl) ?_
      refine dr_go 2 2 rfl (by simp (maxSteps:=1000000);rfl) ?_
      refine dr_go 4 2 rfl (by simp (maxSteps:=1000000);rfl) ?_
      refine dr_go 6 2 rfl (by simp (maxSteps:=1000000);rfl) ?_
      refine dr_split 7 34 (decide (a1.Time < a1.Until)) (by simp) (fun c31=>?_) (fun c31=>?_)
      ·rw[c31] at hvv6
       refine dr_go 8 2 rfl (by simp (maxSteps:=1000000);rfl) ?_
       refine dr_go 10 2 rfl (by simp (maxSteps:=1000000);rfl) ?_
       refine dr_go 12 2 rfl (by simp (maxSteps:=1000000);rfl) ?_
       refine dr_go 14 1 rfl (by simp (maxSteps:=1000000);rfl) ?_
       refine dr_end rfl (tpN ?_)
       cases hvv6
       exact⟨_,rfl,wk (by simp[wkI])⟩
      ·rw[c31] at hvv6
       refine dr_skip 8 79 [some 35,some 36,some 37] rfl rfl (by decide) (by kernel_rfl) (by simp only[skEf,List.map_cons,List.map_nil,List.cons_append,List.nil_append];rfl) ?_
       refine dr_go 11 2 rfl (by simp (maxSteps:=1000000);rfl) ?_
       refine dr_go 13 2 rfl (by simp (maxSteps:=1000000);rfl) ?_
       refine dr_end rfl (tpN ?_)
       cases hvv6
       exact⟨_,rfl,wk (by simp[wkI])⟩
    ·rw[if_neg (by rw[c22];decide)] at h0
     refine kr [2,3,5,6,15,40] (by simp;rfl) ?_
     refine trc (b:=(a1.Kind==4)) (by simp) (fun c32=>?_) (fun c32=>?_)
     ·rw[if_pos c32] at h0
      refine lr (by simp;rfl) ?_
      exact⟨_,h0,wk (by simp[wkI])⟩
     ·rw[if_neg (by rw[c32];decide)] at h0
      refine sjv (fun v7:Bool=>({ nt:=79,env:=[(2,.ptr 2 0),(3,.ptr 3 0),(5,.ptr 5 0),(6,.d (.bool false)),(15,.d (.int .i64 a1.Kind)),(42,.d (.bool v7))],box:=[(2,[.d (.int .i64 a0.Places),.d (.slice (rowsF api_Access_row a0.Events))]),(3,[.d (.int .i64 a1.Time),.d (.int .i64 a1.Kind),.d (.int .i64 a1.Place),.d (.int .i64 a1.Principal),.d (.int .i64 a1.Until),.d (.int .i64 a1.Content),.d (.int .i64 a1.From)]),(5,[.d (.int .i64 a1.Time),.d (.int .i64 a1.Kind),.d (.int .i64 a1.Place),.d (.int .i64 0),.d (.int .i64 0),.d (.int .i64 0),.d (.int .i64 0)])],vec:=[]}:St)) (fun v7=>access_right_j2 a1 a0 v7=some r) (fun v7 h0=>?_) ?_
      ·unfold access_right_j2 at h0
       refine trc (b:=v7) (by simp) (fun c34=>?_) (fun c34=>?_)
       ·rw[if_pos c34] at h0
        refine kd1 [[],[0],[],[2],[3],[],[1,5],[4]] [6] [(5,[6])] none [] 8 fol (by decide +kernel) (by simp) ?_
        refine dr_go 0 2 rfl (by simp (maxSteps:=1000000);rfl) ?_
        refine dr_go 2 2 rfl (by simp (maxSteps:=1000000);rfl) ?_
        replace h0:=bnd h0;obtain⟨y8,hy8,h0⟩:=h0
        refine dr_call 4 [] (access_Content_ok hy8) rfl rfl rfl rfl rfl Tryd.call47 (by simp) ?_
        refine dr_go 5 2 rfl (by simp (maxSteps:=1000000);rfl) ?_
        refine dr_go 7 1 rfl (by simp (maxSteps:=1000000);rfl) ?_
        refine dr_end rfl (tpN ?_)
        exact⟨_,h0,wk (by simp[wkI])⟩
       ·rw[if_neg (by rw[c34];decide)] at h0
        refine kr [2,3,5,6,51] (by simp;rfl) ?_
        refine trc (b:=(a1.Kind==7)) (by simp) (fun c35=>?_) (fun c35=>?_)
        ·rw[if_pos c35] at h0
         replace h0:=bnd h0;obtain⟨v9,hvv9,h0⟩:=h0
         refine tjv (fun v9_:Bool=>({ nt:=79,env:=[(2,.ptr 2 0),(3,.ptr 3 0),(5,.ptr 5 0),(6,.d (.bool v9_))],box:=[(2,[.d (.int .i64 a0.Places),.d (.slice (rowsF api_Access_row a0.Events))]),(3,[.d (.int .i64 a1.Time),.d (.int .i64 a1.Kind),.d (.int .i64 a1.Place),.d (.int .i64 a1.Principal),.d (.int .i64 a1.Until),.d (.int .i64 a1.Content),.d (.int .i64 a1.From)]),(5,[.d (.int .i64 a1.Time),.d (.int .i64 a1.Kind),.d (.int .i64 a1.Place),.d (.int .i64 0),.d (.int .i64 0),.d (.int .i64 0),.d (.int .i64 a1.From)])],vec:=[]}:St)) (fun v9_=>v9=v9_) (fun v9_ e _ Wv9=>?_) ?_
         ·subst e
          exact⟨_,h0,Wk.trans (Wv9) (wk (by simp[wkI]))⟩
         ·refine kd1 [[],[0],[],[],[3],[2,4],[5],[6],[6,7],[6],[6,9],[6,8,10],[6,11],[],[1,13],[12]] [14] [(5,[14])] none [] 16 fol (by decide +kernel) (by simp) ?_
          refine dr_go 0 2 rfl (by simp (maxSteps:=1000000);rfl) ?_
          refine dr_go 2 2 rfl (by simp (maxSteps:=1000000);rfl) ?_
          refine dr_go 4 1 rfl (by simp (maxSteps:=1000000);rfl) ?_
          replace hvv9:=bnd hvv9;obtain⟨y10,hy10,hvv9⟩:=hvv9
          refine dr_call 5 [] (access_Place_ok hy10) rfl rfl rfl rfl rfl Tryd.call90 (by simp) ?_
          refine dr_go 6 1 rfl (by simp (maxSteps:=1000000);rfl) ?_
          refine dr_split 6 59 y10 (by simp) (fun c44=>?_) (fun c44=>?_)
          ·rw[if_pos c44] at hvv9
           refine dr_go 7 2 rfl (by simp (maxSteps:=1000000);rfl) ?_
           refine dr_go 9 2 rfl (by simp (maxSteps:=1000000);rfl) ?_
           refine dr_go 11 2 rfl (by simp (maxSteps:=1000000);rfl) ?_
           refine dr_go 13 2 rfl (by simp (maxSteps:=1000000);rfl) ?_
           refine dr_go 15 1 rfl (by simp (maxSteps:=1000000);rfl) ?_
           refine dr_end rfl (tpN ?_)
           cases hvv9
           exact⟨_,rfl,wk (by simp[wkI])⟩
          ·rw[if_neg (by rw[c44];decide)] at hvv9
           refine dr_skip 7 79 [some 60,some 61,some 62,some 63,some 64] rfl rfl (by decide) (by kernel_rfl) (by simp only[skEf,List.map_cons,List.map_nil,List.cons_append,List.nil_append];rfl) ?_
           refine dr_go 12 2 rfl (by simp (maxSteps:=1000000);rfl) ?_
           refine dr_go 14 2 rfl (by simp (maxSteps:=1000000);rfl) ?_
           refine dr_end rfl (tpN ?_)
           cases hvv9
           exact⟨_,rfl,wk (by simp[wkI])⟩
        ·rw[if_neg (by rw[c35];decide)] at h0
         refine trk ?_
         exact⟨_,h0,wk (by simp[wkI])⟩
      ·refine kr [2,3,5,6,15,42] (by simp;rfl) ?_
       refine trc (b:=(a1.Kind==5)) (by simp) (fun c45=>?_) (fun c45=>?_)
       ·rw[if_pos c45] at h0
        refine trk ?_
        exact⟨_,h0,wk (by simp[wkI])⟩
       ·rw[if_neg (by rw[c45];decide)] at h0
        refine lr (by simp;rfl) ?_
        exact⟨_,h0,wk (by simp[wkI])⟩
  ·refine kr [2,3,5,6,15,16] (by simp;rfl) ?_
   refine trc (b:=(a1.Kind==1)) (by simp) (fun c46=>?_) (fun c46=>?_)
   ·rw[if_pos c46] at h0
    refine trk ?_
    exact⟨_,h0,wk (by simp[wkI])⟩
   ·rw[if_neg (by rw[c46];decide)] at h0
    refine lr (by simp;rfl) ?_
    exact⟨_,h0,wk (by simp[wkI])⟩
theorem access_Check_ok {a0:api_Estate} {r:Int} (h0:access_Check a0=some r):FnOK Tryd.prog 56 [] [.agg (api_Estate_av a0)] (.d (.int .i64 r)) []:=by
 unfold access_Check at h0
 refine fn_ok (nt:=41) (rs:=[.tmp 2]) Tryd.func56 rfl Tryd.ntmps56 rfl (by simp) (by decide) rfl fun K=>?_
 refine kr [1] (by simp;rfl) ?_
 refine trq ?_
 replace h0:=bnd h0;obtain⟨v1,hvv1,h0⟩:=h0
 refine sjv (fun v1_:Bool=>({ nt:=41,env:=[(1,.ptr 1 0),(15,.d (.bool v1_))],box:=[(1,[.d (.int .i64 a0.Places),.d (.slice (rowsF api_Access_row a0.Events))])],vec:=[]}:St)) (fun v1_=>v1=v1_) (fun v1_ e=>?_) ?_
 ·subst e
  refine trc (b:=v1) (by simp) (fun c3=>?_) (fun c3=>?_)
  ·rw[if_pos c3] at h0
   refine kr [2] (by simp;rfl) ?_
   cases h0
   exact trr ⟨[],by simp,rfl,by simp⟩
  ·rw[if_neg (by rw[c3];decide)] at h0
   refine trk ?_
   refine kr [1,3] (by simp;rfl) ?_
   refine trq ?_
   refine kr [1,3,17,18,19] (by simp;rfl) ?_
   replace h0:=bnd h0;obtain⟨e1,hI1,h0⟩:=h0
   refine tjv (fun v2:Unit=>({ nt:=41,env:=[],box:=[],vec:=[]}:St)) (fun v2=>.inl v2=e1) (fun v2 hI1e _ W1=>?_) ?_
   ·subst hI1e
    dsimp only at h0
    refine tr_wk W1 ?_
    refine kr [2] (by simp;rfl) ?_
    cases h0
    exact trr ⟨[],by simp,rfl,by simp⟩
   ·refine trb (tr_iter (fun s3:Int×Int=>({ nt:=41,env:=[(1,.ptr 1 0),(3,.d (.int .i64 s3.1)),(17,.d (.slice (rowsF api_Access_row a0.Events))),(18,.d (.int .i64 ((a0.Events).length:Int))),(19,.d (.int .i64 s3.2))],box:=[(1,[.d (.int .i64 a0.Places),.d (.slice (rowsF api_Access_row a0.Events))])],vec:=[]}:St)) hI1 (wk (by simp[wkI])) fun G1 s3 o1 h1 hg1 he1=>?_)
    unfold access_Check_l0 at h1
    refine kr [1,3,17,18,19,20] (by simp;rfl) ?_
    refine trq ?_
    refine trc (b:=(decide (s3.2 < ((a0.Events).length:Int)))) (by simp) (fun c12=>?_) (fun c12=>?_)
    ·rw[if_pos c12] at h1
     refine trk ?_
     refine trq ?_
     refine trb ?_
     replace h1:=bnd h1;obtain⟨x4,p3,h1⟩:=h1
     replace p3:=idx_some p3
     have p3':=p3;try simp at p3'
     refine kr [1,3,5,17,18,19] (by simp[p3,p3'];rfl) ?_
     refine trq ?_
     replace h1:=bnd h1;obtain⟨v5,hvv5,h1⟩:=h1
     refine sjv (fun v5_:Bool=>({ nt:=41,env:=[(1,.ptr 1 0),(5,.ptr 5 0),(17,.d (.slice (rowsF api_Access_row a0.Events))),(18,.d (.int .i64 ((a0.Events).length:Int))),(19,.d (.int .i64 s3.2)),(37,.d (.bool v5_))],box:=[(1,[.d (.int .i64 a0.Places),.d (.slice (rowsF api_Access_row a0.Events))]),(5,[.d (.int .i64 x4.Time),.d (.int .i64 x4.Kind),.d (.int .i64 x4.Place),.d (.int .i64 x4.Principal),.d (.int .i64 x4.Until),.d (.int .i64 x4.Content),.d (.int .i64 x4.From)])],vec:=[]}:St)) (fun v5_=>v5=v5_) (fun v5_ e=>?_) ?_
     ·subst e
      refine trc (b:=v5) (by simp) (fun c17=>?_) (fun c17=>?_)
      ·rw[if_pos c17] at h1
       refine kr [2] (by simp;rfl) ?_
       have k1:=he1 _ (Option.some.inj h1)
       subst k1
       dsimp only at h0
       cases h0
       exact trr ⟨[],by simp,rfl,by simp⟩
      ·rw[if_neg (by rw[c17];decide)] at h1
       refine trk ?_
       refine lr (by simp;rfl) ?_
       refine lr (by simp;rfl) ?_
       exact⟨_,hg1 _ (Option.some.inj h1),wk (by simp[wkI])⟩
     ·refine kc1 ?_
      refine ko [1,5,17,18,19,27] 5 (by simp;rfl) ?_
      refine tops_split 27 (decide (x4.Time < s3.1)) (by simp) (fun c18=>?_) (fun c18=>?_)
      ·rw[if_pos c18] at hvv5
       refine kskip 3 [] (by kernel_rfl) ?_
       refine ko [1,5,17,18,19,32] 2 (by simp;rfl) ?_
       refine kskip 4 [] (by kernel_rfl) ?_
       refine ko [1,5,17,18,19,37] 1 (by simp;rfl) ?_
       refine tpN ?_
       cases hvv5
       exact⟨_,rfl,wk (by simp[wkI])⟩
      ·rw[if_neg (by rw[c18];decide)] at hvv5
       refine ko [1,5,17,18,19,28,29,30,32] 5 (by simp;rfl) ?_
       refine tops_split 32 (decide (1099511627776 < x4.Time)) (by simp) (fun c19=>?_) (fun c19=>?_)
       ·rw[if_pos c19] at hvv5
        refine kskip 4 [] (by kernel_rfl) ?_
        refine ko [1,5,17,18,19,28,29,30,37] 1 (by simp;rfl) ?_
        refine tpN ?_
        cases hvv5
        exact⟨_,rfl,wk (by simp[wkI])⟩
       ·rw[if_neg (by rw[c19];decide)] at hvv5
        refine ko [1,5,17,18,19,28,29,30,32,33,34] 2 (by simp;rfl) ?_
        replace hvv5:=bnd hvv5;obtain⟨y6,hy6,hvv5⟩:=hvv5
        refine kcall [1,5,17,18,19,28,29,30,32,33,34,35] [] (access_right_ok hy6) rfl rfl rfl Tryd.call77 (by simp) (by simp;rfl) ?_
        refine ko [1,5,17,18,19,28,29,30,33,34,35,36,37] 2 (by simp;rfl) ?_
        refine tpN ?_
        cases hvv5
        exact⟨_,rfl,wk (by simp[wkI])⟩
    ·rw[if_neg (by rw[c12];decide)] at h1
     refine tr_exit ?_
     exact⟨_,he1 _ (Option.some.inj h1),wk (by simp[wkI])⟩
 ·refine kc1 ?_
  refine ko [1,7] 2 (by simp;rfl) ?_
  replace hvv1:=bnd hvv1;obtain⟨y9,hy9,hvv1⟩:=hvv1
  refine kcall [1,8] [] (access_among_ok hy9) rfl rfl rfl Tryd.call57 (by simp) (by simp;rfl) ?_
  refine ko [1,10] 2 (by simp;rfl) ?_
  refine tops_split 10 (!y9) (by simp) (fun c20=>?_) (fun c20=>?_)
  ·rw[if_pos c20] at hvv1
   refine kskip 4 [] (by kernel_rfl) ?_
   refine ko [1,15] 1 (by simp;rfl) ?_
   refine tpN ?_
   cases hvv1
   exact⟨_,rfl,wk (by simp[wkI])⟩
  ·rw[if_neg (by rw[c20];decide)] at hvv1
   refine ko [1,15] 5 (by simp;rfl) ?_
   refine tpN ?_
   cases hvv1
   exact⟨_,rfl,wk (by simp[wkI])⟩
theorem copies_bit_ok {a0:Int} {r:Int} (h0:copies_bit a0=some r):FnOK Tryd.prog 79 [] [.d (.int .i64 a0)] (.d (.int .u64 r)) []:=by
 unfold copies_bit at h0
 refine fn_ok (nt:=5) (rs:=[.tmp 2]) Tryd.func79 rfl Tryd.ntmps79 rfl (by simp) (by decide) rfl fun K=>?_
 refine kr [0] (by simp;rfl) ?_
 replace h0:=bnd h0;obtain⟨_,p1,h0⟩:=h0
 replace p1:=ck_some p1
 have p1':=p1;try simp at p1'
 refine kr [2] (by simp[p1,p1'];rfl) ?_
 cases h0
 exact trr ⟨[],by simp,rfl,by simp⟩
theorem access_known_ok {a0:api_Estate} {a1:Int} {r:Bool} (h0:access_known a0 a1=some r):FnOK Tryd.prog 80 [] [.agg (api_Estate_av a0),.d (.int .i64 a1)] (.d (.bool r)) []:=by
 unfold access_known at h0
 refine fn_ok (nt:=13) (rs:=[.tmp 4]) Tryd.func80 rfl Tryd.ntmps80 rfl (by simp) (by decide) rfl fun K=>?_
 refine kr [1,2] (by simp;rfl) ?_
 replace h0:=bnd h0;obtain⟨v1,hvv1,h0⟩:=h0
 refine sjv (fun v1_:Bool=>({ nt:=13,env:=[(4,.d (.bool v1_))],box:=[],vec:=[]}:St)) (fun v1_=>v1=v1_) (fun v1_ e=>?_) ?_
 ·subst e
  cases h0
  exact trr ⟨[],by simp,rfl,by simp⟩
 ·refine kc1 ?_
  refine ko [1,2,5] 1 (by simp;rfl) ?_
  replace hvv1:=bnd hvv1;obtain⟨y2,hy2,hvv1⟩:=hvv1
  refine kcall [1,2,6] [] (access_Check_ok hy2) rfl rfl rfl Tryd.call56 (by simp) (by simp;rfl) ?_
  refine ko [1,2,8] 2 (by simp;rfl) ?_
  refine tops_split 8 (y2==0) (by simp) (fun c3=>?_) (fun c3=>?_)
  ·rw[if_pos c3] at hvv1
   refine ko [8,9,10] 2 (by simp;rfl) ?_
   replace hvv1:=bnd hvv1;obtain⟨y3,hy3,hvv1⟩:=hvv1
   refine kcall [8,11] [] (access_Place_ok hy3) rfl rfl rfl Tryd.call90 (by simp) (by simp;rfl) ?_
   refine ko [4] 2 (by simp;rfl) ?_
   refine tpN ?_
   cases hvv1
   exact⟨_,rfl,wk (by simp[wkI])⟩
  ·rw[if_neg (by rw[c3];decide)] at hvv1
   refine kskip 3 [] (by kernel_rfl) ?_
   refine ko [4] 2 (by simp;rfl) ?_
   refine tpN ?_
   cases hvv1
   exact⟨_,rfl,wk (by simp[wkI])⟩
theorem directory_known_ok {a0:api_Directory} {a1:Int} {r:Bool} (h0:directory_known a0 a1=some r):FnOK Tryd.prog 97 [] [.agg (api_Directory_av a0),.d (.int .i64 a1)] (.d (.bool r)) []:=by
 unfold directory_known at h0
 refine fn_ok (nt:=13) (rs:=[.tmp 4]) Tryd.func97 rfl Tryd.ntmps97 rfl (by simp) (by decide) rfl fun K=>?_
 refine kr [1,2] (by simp;rfl) ?_
 replace h0:=bnd h0;obtain⟨v1,hvv1,h0⟩:=h0
 refine sjv (fun v1_:Bool=>({ nt:=13,env:=[(4,.d (.bool v1_))],box:=[],vec:=[]}:St)) (fun v1_=>v1=v1_) (fun v1_ e=>?_) ?_
 ·subst e
  cases h0
  exact trr ⟨[],by simp,rfl,by simp⟩
 ·refine kc1 ?_
  refine ko [1,2,5] 1 (by simp;rfl) ?_
  replace hvv1:=bnd hvv1;obtain⟨y2,hy2,hvv1⟩:=hvv1
  refine kcall [1,2,6] [] (directory_Check_ok hy2) rfl rfl rfl Tryd.call55 (by simp) (by simp;rfl) ?_
  refine ko [1,2,8] 2 (by simp;rfl) ?_
  refine tops_split 8 (y2==0) (by simp) (fun c3=>?_) (fun c3=>?_)
  ·rw[if_pos c3] at hvv1
   refine ko [8,9,10] 2 (by simp;rfl) ?_
   replace hvv1:=bnd hvv1;obtain⟨y3,hy3,hvv1⟩:=hvv1
   refine kcall [8,11] [] (directory_exists_ok hy3) rfl rfl rfl Tryd.call75 (by simp) (by simp;rfl) ?_
   refine ko [4] 2 (by simp;rfl) ?_
   refine tpN ?_
   cases hvv1
   exact⟨_,rfl,wk (by simp[wkI])⟩
  ·rw[if_neg (by rw[c3];decide)] at hvv1
   refine kskip 3 [] (by kernel_rfl) ?_
   refine ko [4] 2 (by simp;rfl) ?_
   refine tpN ?_
   cases hvv1
   exact⟨_,rfl,wk (by simp[wkI])⟩
theorem access_grants_ok {a0:api_Estate} {a1:Int} {a2:Int} {r:(List (Int×Int))} (h0:access_grants a0 a1 a2=some r):FnOK Tryd.prog 101 [] [.agg (api_Estate_av a0),.d (.int .i64 a1),.d (.int .i64 a2)] (.d (.mp (mTag 157 1 false false) 2 (rowsF (mRow (iRow .i64) (iRow .i64)) r))) []:=by
 unfold access_grants at h0
 refine fn_ok (nt:=47) (rs:=[.tmp 6]) Tryd.func101 rfl Tryd.ntmps101 rfl (by simp) (by decide) rfl fun K=>?_
 refine kr [1,2,3] (by simp;rfl) ?_
 refine kr [1,2,3,7] (by simp;rfl) ?_
 refine trq ?_
 refine kr [1,2,7,12,13,14] (by simp;rfl) ?_
 replace h0:=bnd h0;obtain⟨e1,hI1,h0⟩:=h0
 refine tjv (fun v1:(List (Int×Int))=>({ nt:=47,env:=[(7,.vec 10)],box:=[],vec:=[(10,⟨mTag 157 1 false false,2,rowsF (mRow (iRow .i64) (iRow .i64)) v1⟩)]}:St)) (fun v1=>v1=e1) (fun v1 hI1e _ W1=>?_) ?_
 ·subst hI1e
  refine tr_wk W1 ?_
  refine kr [6] (by simp;rfl) ?_
  cases h0
  exact trr ⟨[10],by simp,rfl,by simp⟩
 ·refine trb (tr_iter (fun s2:Int×(List (Int×Int))=>({ nt:=47,env:=[(1,.d (.int .i64 a1)),(2,.d (.int .i64 a2)),(7,.vec 10),(12,.d (.slice (rowsF api_Access_row a0.Events))),(13,.d (.int .i64 ((a0.Events).length:Int))),(14,.d (.int .i64 s2.1))],box:=[],vec:=[(10,⟨mTag 157 1 false false,2,rowsF (mRow (iRow .i64) (iRow .i64)) s2.2⟩)]}:St)) hI1 (wk (by simp[wkI])) fun G1 s2 o1 h1 hg1 he1=>?_)
  unfold access_grants_l0 at h1
  refine kr [1,2,7,12,13,14,15] (by simp;rfl) ?_
  refine trq ?_
  refine trc (b:=(decide (s2.1 < ((a0.Events).length:Int)))) (by simp) (fun c11=>?_) (fun c11=>?_)
  ·rw[if_pos c11] at h1
   refine trk ?_
   refine trq ?_
   refine trb ?_
   replace h1:=bnd h1;obtain⟨x3,p3,h1⟩:=h1
   replace p3:=idx_some p3
   have p3':=p3;try simp at p3'
   refine kr [1,2,7,8,9,12,13,14] (by simp[p3,p3'];rfl) ?_
   refine trb ?_
   replace h1:=bnd h1;obtain⟨v4,hvv4,h1⟩:=h1
   refine sjv (fun v4_:Bool=>({ nt:=47,env:=[(1,.d (.int .i64 a1)),(2,.d (.int .i64 a2)),(7,.vec 10),(8,.d (.int .i64 s2.1)),(9,.ptr 9 0),(12,.d (.slice (rowsF api_Access_row a0.Events))),(13,.d (.int .i64 ((a0.Events).length:Int))),(14,.d (.int .i64 s2.1)),(19,.d (.bool v4_))],box:=[(9,[.d (.int .i64 x3.Time),.d (.int .i64 x3.Kind),.d (.int .i64 x3.Place),.d (.int .i64 x3.Principal),.d (.int .i64 x3.Until),.d (.int .i64 x3.Content),.d (.int .i64 x3.From)])],vec:=[(10,⟨mTag 157 1 false false,2,rowsF (mRow (iRow .i64) (iRow .i64)) s2.2⟩)]}:St)) (fun v4_=>v4=v4_) (fun v4_ e=>?_) ?_
   ·subst e
    refine trc (b:=v4) (by simp) (fun c14=>?_) (fun c14=>?_)
    ·rw[if_pos c14] at h1
     refine trk ?_
     refine lr (by simp;rfl) ?_
     exact⟨_,hg1 _ (Option.some.inj h1),wk (by simp[wkI])⟩
    ·rw[if_neg (by rw[c14];decide)] at h1
     refine kr [1,2,7,8,9,12,13,14,30] (by simp;rfl) ?_
     refine trc (b:=(x3.Kind==1)) (by simp) (fun c15=>?_) (fun c15=>?_)
     ·rw[if_pos c15] at h1
      refine lr (by simp;rfl) ?_
      refine lr (by simp;rfl) ?_
      exact⟨_,hg1 _ (Option.some.inj h1),wk (by simp[wkI])⟩
     ·rw[if_neg (by rw[c15];decide)] at h1
      refine kr [1,2,7,9,12,13,14,38] (by simp;rfl) ?_
      refine trc (b:=(x3.Kind==2)) (by simp) (fun c16=>?_) (fun c16=>?_)
      ·rw[if_pos c16] at h1
       refine lr (by simp;rfl) ?_
       refine lr (by simp;rfl) ?_
       exact⟨_,hg1 _ (Option.some.inj h1),wk (by simp[wkI])⟩
      ·rw[if_neg (by rw[c16];decide)] at h1
       refine trk ?_
       refine lr (by simp;rfl) ?_
       exact⟨_,hg1 _ (Option.some.inj h1),wk (by simp[wkI])⟩
   ·refine kc1 ?_
    refine ko [1,2,7,8,9,12,13,14,24] 5 (by simp;rfl) ?_
    refine tops_split 24 (decide (a2 < x3.Time)) (by simp) (fun c17=>?_) (fun c17=>?_)
    ·rw[c17] at hvv4
     refine kskip 4 [] (by kernel_rfl) ?_
     refine ko [1,2,7,8,9,12,13,14,19] 2 (by simp;rfl) ?_
     refine tpN ?_
     cases hvv4
     exact⟨_,rfl,wk (by simp[wkI])⟩
    ·rw[c17] at hvv4
     refine ko [1,2,7,8,9,12,13,14,19,25,26,27,28] 6 (by simp;rfl) ?_
     refine tpN ?_
     cases hvv4
     exact⟨_,rfl,wk (by simp[wkI])⟩
  ·rw[if_neg (by rw[c11];decide)] at h1
   refine tr_exit ?_
   exact⟨_,he1 _ (Option.some.inj h1),wk (by simp[wkI])⟩
theorem rights_among_ok {a0:Int} {a1:Int} {a2:Int} {r:Bool} (h0:rights_among a0 a1 a2=some r):FnOK Tryd.prog 22 [] [.d (.int .i64 a0),.d (.int .i64 a1),.d (.int .i64 a2)] (.d (.bool r)) []:=by
 unfold rights_among at h0
 refine fn_ok (nt:=15) (rs:=[.tmp 6]) Tryd.func22 rfl Tryd.ntmps22 rfl (by simp) (by decide) rfl fun K=>?_
 refine kr [0,1,2] (by simp;rfl) ?_
 replace h0:=bnd h0;obtain⟨v1,hvv1,h0⟩:=h0
 refine sjv (fun v1_:Bool=>({ nt:=15,env:=[(6,.d (.bool v1_))],box:=[],vec:=[]}:St)) (fun v1_=>v1=v1_) (fun v1_ e=>?_) ?_
 ·subst e
  cases h0
  exact trr ⟨[],by simp,rfl,by simp⟩
 ·refine kc1 ?_
  refine ko [0,2,10] 4 (by simp;rfl) ?_
  refine tops_split 10 (decide (a1≤a0)) (by simp) (fun c3=>?_) (fun c3=>?_)
  ·rw[c3] at hvv1
   refine ko [6] 5 (by simp;rfl) ?_
   refine tpN ?_
   cases hvv1
   exact⟨_,rfl,wk (by simp[wkI])⟩
  ·rw[c3] at hvv1
   refine kskip 3 [] (by kernel_rfl) ?_
   refine ko [6] 2 (by simp;rfl) ?_
   refine tpN ?_
   cases hvv1
   exact⟨_,rfl,wk (by simp[wkI])⟩
theorem rights_credential_ok {a0:api_Rights} {a1:Int} {r:Bool} (h0:rights_credential a0 a1=some r):FnOK Tryd.prog 25 [] [.agg (api_Rights_av a0),.d (.int .i64 a1)] (.d (.bool r)) []:=by
 unfold rights_credential at h0
 refine fn_ok (nt:=10) (rs:=[.tmp 4]) Tryd.func25 rfl Tryd.ntmps25 rfl (by simp) (by decide) rfl fun K=>?_
 refine kr [1,2] (by simp;rfl) ?_
 refine kc ?_
 refine ko [5,8] 4 (by simp;rfl) ?_
 replace h0:=bnd h0;obtain⟨y1,hy1,h0⟩:=h0
 refine kcall [9] [] (rights_among_ok hy1) rfl rfl rfl Tryd.call22 (by simp) (by simp;rfl) ?_
 refine ko [4] 1 (by simp;rfl) ?_
 refine tpN ?_
 cases h0
 exact trr ⟨[],by simp,rfl,by simp⟩
theorem rights_resource_ok {a0:api_Rights} {a1:Int} {r:Bool} (h0:rights_resource a0 a1=some r):FnOK Tryd.prog 26 [] [.agg (api_Rights_av a0),.d (.int .i64 a1)] (.d (.bool r)) []:=by
 unfold rights_resource at h0
 refine fn_ok (nt:=10) (rs:=[.tmp 4]) Tryd.func26 rfl Tryd.ntmps26 rfl (by simp) (by decide) rfl fun K=>?_
 refine kr [1,2] (by simp;rfl) ?_
 refine kc ?_
 refine ko [5,8] 4 (by simp;rfl) ?_
 replace h0:=bnd h0;obtain⟨y1,hy1,h0⟩:=h0
 refine kcall [9] [] (rights_among_ok hy1) rfl rfl rfl Tryd.call22 (by simp) (by simp;rfl) ?_
 refine ko [4] 1 (by simp;rfl) ?_
 refine tpN ?_
 cases h0
 exact trr ⟨[],by simp,rfl,by simp⟩
theorem rights_Check_1_cb_ok {a0:api_Grant} {a1:api_Rights} {r:Bool×api_Rights} (h0:rights_Check_1_cb a0 a1=some r):FnOK Tryd.prog 38 [api_Rights_av a1] [.agg (api_Grant_av a0),.ptr (InO 0) 0] (.d (.bool r.1)) [api_Rights_av r.2]:=by
 unfold rights_Check_1_cb at h0
 refine fn_ok (nt:=22) (rs:=[.tmp 3]) Tryd.func38 rfl Tryd.ntmps38 rfl (by simp) (by decide) rfl fun K=>?_
 refine kr [1,2] (by simp;rfl) ?_
 replace h0:=bnd h0;obtain⟨v1,hvv1,h0⟩:=h0
 refine sjv (fun v1_:Bool=>({ nt:=22,env:=[(3,.d (.bool v1_))],box:=[(1000000,[.d (.int .i64 a1.Credentials),.d (.int .i64 a1.Resources),.d (.slice (rowsF api_Grant_row a1.Grants)),.d (.slice (rowsF api_Store_row a1.Stores)),.d (.slice (rowsF api_Mint_row a1.Mints))])],vec:=[]}:St)) (fun v1_=>v1=v1_) (fun v1_ e=>?_) ?_
 ·subst e
  cases h0
  exact trr ⟨[],by simp,rfl,by simp⟩
 ·refine kc1 ?_
  refine ko [1,2,4,6] 3 (by simp;rfl) ?_
  replace hvv1:=bnd hvv1;obtain⟨y2,hy2,hvv1⟩:=hvv1
  refine kcall [1,2,7] [] (rights_credential_ok hy2) rfl rfl rfl Tryd.call25 (by simp) (by simp;rfl) ?_
  refine ko [1,2,9] 2 (by simp;rfl) ?_
  refine tops_split 9 (!y2) (by simp) (fun c5=>?_) (fun c5=>?_)
  ·rw[if_pos c5] at hvv1
   refine kskip 5 [] (by kernel_rfl) ?_
   refine ko [2,16] 2 (by simp;rfl) ?_
   refine kskip 4 [] (by kernel_rfl) ?_
   refine ko [3] 2 (by simp;rfl) ?_
   refine tpN ?_
   cases hvv1
   exact⟨_,rfl,wk (by simp[wkI])⟩
  ·rw[if_neg (by rw[c5];decide)] at hvv1
   refine ko [2,9,10,12] 3 (by simp;rfl) ?_
   replace hvv1:=bnd hvv1;obtain⟨y3,hy3,hvv1⟩:=hvv1
   refine kcall [2,9,13] [] (rights_resource_ok hy3) rfl rfl rfl Tryd.call26 (by simp) (by simp;rfl) ?_
   refine ko [2,16] 3 (by simp;rfl) ?_
   refine tops_split 16 (!y3) (by simp) (fun c6=>?_) (fun c6=>?_)
   ·rw[if_pos c6] at hvv1
    refine kskip 4 [] (by kernel_rfl) ?_
    refine ko [3] 2 (by simp;rfl) ?_
    refine tpN ?_
    cases hvv1
    exact⟨_,rfl,wk (by simp[wkI])⟩
   ·rw[if_neg (by rw[c6];decide)] at hvv1
    refine ko [16,18] 2 (by simp;rfl) ?_
    replace hvv1:=bnd hvv1;obtain⟨y4,hy4,hvv1⟩:=hvv1
    refine kcall [16,19] [] (rights_among_ok hy4) rfl rfl rfl Tryd.call22 (by simp) (by simp;rfl) ?_
    refine ko [3] 3 (by simp;rfl) ?_
    refine tpN ?_
    cases hvv1
    exact⟨_,rfl,wk (by simp[wkI])⟩
theorem sYIndexFunc_api_Grant_at_rights_Check_1_b_ok {a0:List api_Grant} {b10:api_Rights} {r:Int×api_Rights} (h0:sYIndexFunc_api_Grant_at_rights_Check_1_b a0 b10=some r):FnOK Tryd.prog 52 [api_Rights_av b10] [.d (.slice (rowsF api_Grant_row a0)),.fn 38 [.ptr (InO 0) 0]] (.d (.int .i64 r.1)) [api_Rights_av r.2]:=by
 unfold sYIndexFunc_api_Grant_at_rights_Check_1_b at h0
 refine fn_ok (nt:=19) (rs:=[.tmp 4]) Tryd.func52 rfl Tryd.ntmps52 rfl (by simp) (by decide) rfl fun K=>?_
 refine kr [0,1] (by simp;rfl) ?_
 refine trq ?_
 refine kr [0,1,7,8] (by simp;rfl) ?_
 replace h0:=bnd h0;obtain⟨e1,hI1,h0⟩:=h0
 refine tjv (fun v1:Int×Int×(List api_Grant)×(List api_Store)×(List api_Mint)=>({ nt:=19,env:=[],box:=[(1000000,[.d (.int .i64 v1.1),.d (.int .i64 v1.2.1),.d (.slice (rowsF api_Grant_row v1.2.2.1)),.d (.slice (rowsF api_Store_row v1.2.2.2.1)),.d (.slice (rowsF api_Mint_row v1.2.2.2.2))])],vec:=[]}:St)) (fun v1=>.inl v1=e1) (fun v1 hI1e _ W1=>?_) ?_
 ·subst hI1e
  dsimp only at h0
  refine tr_wk W1 ?_
  refine kr [4] (by simp;rfl) ?_
  cases h0
  exact trr ⟨[],by simp,rfl,by simp⟩
 ·refine trb (tr_iter (fun s2:Int×Int×Int×(List api_Grant)×(List api_Store)×(List api_Mint)=>({ nt:=19,env:=[(0,.d (.slice (rowsF api_Grant_row a0))),(1,.fn 38 [.ptr 1000000 0]),(7,.d (.int .i64 ((a0).length:Int))),(8,.d (.int .i64 s2.1))],box:=[(1000000,[.d (.int .i64 s2.2.1),.d (.int .i64 s2.2.2.1),.d (.slice (rowsF api_Grant_row s2.2.2.2.1)),.d (.slice (rowsF api_Store_row s2.2.2.2.2.1)),.d (.slice (rowsF api_Mint_row s2.2.2.2.2.2))])],vec:=[]}:St)) hI1 (wk (by simp[wkI])) fun G1 s2 o1 h1 hg1 he1=>?_)
  unfold sYIndexFunc_api_Grant_at_rights_Check_1_b_l0 at h1
  refine kr [0,1,7,8,9] (by simp;rfl) ?_
  refine trq ?_
  refine trc (b:=(decide (s2.1 < ((a0).length:Int)))) (by simp) (fun c5=>?_) (fun c5=>?_)
  ·rw[if_pos c5] at h1
   refine trk ?_
   refine trq ?_
   refine trb ?_
   refine kr [0,1,5,7,8] (by simp;rfl) ?_
   refine kc ?_
   replace h1:=bnd h1;obtain⟨x3,p3,h1⟩:=h1
   replace p3:=idx_some p3
   have p3':=p3;try simp at p3'
   refine ko [0,1,5,7,8,11,15] 5 (by simp[p3,p3'];rfl) ?_
   replace h1:=bnd h1;obtain⟨y4,hy4,h1⟩:=h1
   refine kcallV [0,1,5,7,8,16] [1000000] [] [] (rights_Check_1_cb_ok hy4) rfl rfl rfl Tryd.call38 (by simp) (by simp;rfl) ?_
   refine tpN ?_
   refine trc (b:=y4.1) (by simp) (fun c6=>?_) (fun c6=>?_)
   ·rw[if_pos c6] at h1
    refine kr [4] (by simp;rfl) ?_
    have k1:=he1 _ (Option.some.inj h1)
    subst k1
    dsimp only at h0
    cases h0
    exact trr ⟨[],by simp,rfl,by simp⟩
   ·rw[if_neg (by rw[c6];decide)] at h1
    refine trk ?_
    refine lr (by simp;rfl) ?_
    exact⟨_,hg1 _ (Option.some.inj h1),wk (by simp[wkI])⟩
  ·rw[if_neg (by rw[c5];decide)] at h1
   refine tr_exit ?_
   exact⟨_,he1 _ (Option.some.inj h1),wk (by simp[wkI])⟩
theorem sYContainsFunc_api_Grant_at_rights_Check_1_b_ok {a0:List api_Grant} {b10:api_Rights} {r:Bool×api_Rights} (h0:sYContainsFunc_api_Grant_at_rights_Check_1_b a0 b10=some r):FnOK Tryd.prog 41 [api_Rights_av b10] [.d (.slice (rowsF api_Grant_row a0)),.fn 38 [.ptr (InO 0) 0]] (.d (.bool r.1)) [api_Rights_av r.2]:=by
 unfold sYContainsFunc_api_Grant_at_rights_Check_1_b at h0
 refine fn_ok (nt:=9) (rs:=[.tmp 4]) Tryd.func41 rfl Tryd.ntmps41 rfl (by simp) (by decide) rfl fun K=>?_
 refine kr [0,1] (by simp;rfl) ?_
 refine kc ?_
 refine ko [5,6] 2 (by simp;rfl) ?_
 replace h0:=bnd h0;obtain⟨y1,hy1,h0⟩:=h0
 refine kcall [7] [1000000] (sYIndexFunc_api_Grant_at_rights_Check_1_b_ok hy1) rfl rfl rfl Tryd.call52 (by simp) (by simp;rfl) ?_
 refine ko [4] 2 (by simp;rfl) ?_
 refine tpN ?_
 cases h0
 exact trr ⟨[],by simp,rfl,by simp⟩
theorem rights_Check_2_cb_ok {a0:api_Store} {a1:api_Rights} {r:Bool×api_Rights} (h0:rights_Check_2_cb a0 a1=some r):FnOK Tryd.prog 39 [api_Rights_av a1] [.agg (api_Store_av a0),.ptr (InO 0) 0] (.d (.bool r.1)) [api_Rights_av r.2]:=by
 unfold rights_Check_2_cb at h0
 refine fn_ok (nt:=16) (rs:=[.tmp 3]) Tryd.func39 rfl Tryd.ntmps39 rfl (by simp) (by decide) rfl fun K=>?_
 refine kr [1,2] (by simp;rfl) ?_
 replace h0:=bnd h0;obtain⟨v1,hvv1,h0⟩:=h0
 refine sjv (fun v1_:Bool=>({ nt:=16,env:=[(3,.d (.bool v1_))],box:=[(1000000,[.d (.int .i64 a1.Credentials),.d (.int .i64 a1.Resources),.d (.slice (rowsF api_Grant_row a1.Grants)),.d (.slice (rowsF api_Store_row a1.Stores)),.d (.slice (rowsF api_Mint_row a1.Mints))])],vec:=[]}:St)) (fun v1_=>v1=v1_) (fun v1_ e=>?_) ?_
 ·subst e
  cases h0
  exact trr ⟨[],by simp,rfl,by simp⟩
 ·refine kc1 ?_
  refine ko [1,2,4,6] 3 (by simp;rfl) ?_
  replace hvv1:=bnd hvv1;obtain⟨y2,hy2,hvv1⟩:=hvv1
  refine kcall [1,2,7] [] (rights_credential_ok hy2) rfl rfl rfl Tryd.call25 (by simp) (by simp;rfl) ?_
  refine ko [1,2,9] 2 (by simp;rfl) ?_
  refine tops_split 9 (!y2) (by simp) (fun c3=>?_) (fun c3=>?_)
  ·rw[if_pos c3] at hvv1
   refine kskip 5 [] (by kernel_rfl) ?_
   refine ko [3] 2 (by simp;rfl) ?_
   refine tpN ?_
   cases hvv1
   exact⟨_,rfl,wk (by simp[wkI])⟩
  ·rw[if_neg (by rw[c3];decide)] at hvv1
   refine ko [9,10,12] 3 (by simp;rfl) ?_
   replace hvv1:=bnd hvv1;obtain⟨y3,hy3,hvv1⟩:=hvv1
   refine kcall [9,13] [] (rights_resource_ok hy3) rfl rfl rfl Tryd.call26 (by simp) (by simp;rfl) ?_
   refine ko [3] 3 (by simp;rfl) ?_
   refine tpN ?_
   cases hvv1
   exact⟨_,rfl,wk (by simp[wkI])⟩
theorem sYIndexFunc_api_Store_at_rights_Check_2_b_ok {a0:List api_Store} {b10:api_Rights} {r:Int×api_Rights} (h0:sYIndexFunc_api_Store_at_rights_Check_2_b a0 b10=some r):FnOK Tryd.prog 53 [api_Rights_av b10] [.d (.slice (rowsF api_Store_row a0)),.fn 39 [.ptr (InO 0) 0]] (.d (.int .i64 r.1)) [api_Rights_av r.2]:=by
 unfold sYIndexFunc_api_Store_at_rights_Check_2_b at h0
 refine fn_ok (nt:=19) (rs:=[.tmp 4]) Tryd.func53 rfl Tryd.ntmps53 rfl (by simp) (by decide) rfl fun K=>?_
 refine kr [0,1] (by simp;rfl) ?_
 refine trq ?_
 refine kr [0,1,7,8] (by simp;rfl) ?_
 replace h0:=bnd h0;obtain⟨e1,hI1,h0⟩:=h0
 refine tjv (fun v1:Int×Int×(List api_Grant)×(List api_Store)×(List api_Mint)=>({ nt:=19,env:=[],box:=[(1000000,[.d (.int .i64 v1.1),.d (.int .i64 v1.2.1),.d (.slice (rowsF api_Grant_row v1.2.2.1)),.d (.slice (rowsF api_Store_row v1.2.2.2.1)),.d (.slice (rowsF api_Mint_row v1.2.2.2.2))])],vec:=[]}:St)) (fun v1=>.inl v1=e1) (fun v1 hI1e _ W1=>?_) ?_
 ·subst hI1e
  dsimp only at h0
  refine tr_wk W1 ?_
  refine kr [4] (by simp;rfl) ?_
  cases h0
  exact trr ⟨[],by simp,rfl,by simp⟩
 ·refine trb (tr_iter (fun s2:Int×Int×Int×(List api_Grant)×(List api_Store)×(List api_Mint)=>({ nt:=19,env:=[(0,.d (.slice (rowsF api_Store_row a0))),(1,.fn 39 [.ptr 1000000 0]),(7,.d (.int .i64 ((a0).length:Int))),(8,.d (.int .i64 s2.1))],box:=[(1000000,[.d (.int .i64 s2.2.1),.d (.int .i64 s2.2.2.1),.d (.slice (rowsF api_Grant_row s2.2.2.2.1)),.d (.slice (rowsF api_Store_row s2.2.2.2.2.1)),.d (.slice (rowsF api_Mint_row s2.2.2.2.2.2))])],vec:=[]}:St)) hI1 (wk (by simp[wkI])) fun G1 s2 o1 h1 hg1 he1=>?_)
  unfold sYIndexFunc_api_Store_at_rights_Check_2_b_l0 at h1
  refine kr [0,1,7,8,9] (by simp;rfl) ?_
  refine trq ?_
  refine trc (b:=(decide (s2.1 < ((a0).length:Int)))) (by simp) (fun c5=>?_) (fun c5=>?_)
  ·rw[if_pos c5] at h1
   refine trk ?_
   refine trq ?_
   refine trb ?_
   refine kr [0,1,5,7,8] (by simp;rfl) ?_
   refine kc ?_
   replace h1:=bnd h1;obtain⟨x3,p3,h1⟩:=h1
   replace p3:=idx_some p3
   have p3':=p3;try simp at p3'
   refine ko [0,1,5,7,8,11,15] 5 (by simp[p3,p3'];rfl) ?_
   replace h1:=bnd h1;obtain⟨y4,hy4,h1⟩:=h1
   refine kcallV [0,1,5,7,8,16] [1000000] [] [] (rights_Check_2_cb_ok hy4) rfl rfl rfl Tryd.call39 (by simp) (by simp;rfl) ?_
   refine tpN ?_
   refine trc (b:=y4.1) (by simp) (fun c6=>?_) (fun c6=>?_)
   ·rw[if_pos c6] at h1
    refine kr [4] (by simp;rfl) ?_
    have k1:=he1 _ (Option.some.inj h1)
    subst k1
    dsimp only at h0
    cases h0
    exact trr ⟨[],by simp,rfl,by simp⟩
   ·rw[if_neg (by rw[c6];decide)] at h1
    refine trk ?_
    refine lr (by simp;rfl) ?_
    exact⟨_,hg1 _ (Option.some.inj h1),wk (by simp[wkI])⟩
  ·rw[if_neg (by rw[c5];decide)] at h1
   refine tr_exit ?_
   exact⟨_,he1 _ (Option.some.inj h1),wk (by simp[wkI])⟩
theorem sYContainsFunc_api_Store_at_rights_Check_2_b_ok {a0:List api_Store} {b10:api_Rights} {r:Bool×api_Rights} (h0:sYContainsFunc_api_Store_at_rights_Check_2_b a0 b10=some r):FnOK Tryd.prog 42 [api_Rights_av b10] [.d (.slice (rowsF api_Store_row a0)),.fn 39 [.ptr (InO 0) 0]] (.d (.bool r.1)) [api_Rights_av r.2]:=by
 unfold sYContainsFunc_api_Store_at_rights_Check_2_b at h0
 refine fn_ok (nt:=9) (rs:=[.tmp 4]) Tryd.func42 rfl Tryd.ntmps42 rfl (by simp) (by decide) rfl fun K=>?_
 refine kr [0,1] (by simp;rfl) ?_
 refine kc ?_
 refine ko [5,6] 2 (by simp;rfl) ?_
 replace h0:=bnd h0;obtain⟨y1,hy1,h0⟩:=h0
 refine kcall [7] [1000000] (sYIndexFunc_api_Store_at_rights_Check_2_b_ok hy1) rfl rfl rfl Tryd.call53 (by simp) (by simp;rfl) ?_
 refine ko [4] 2 (by simp;rfl) ?_
 refine tpN ?_
 cases h0
 exact trr ⟨[],by simp,rfl,by simp⟩
theorem rights_Check_3_cb_ok {a0:api_Mint} {a1:api_Rights} {r:Bool×api_Rights} (h0:rights_Check_3_cb a0 a1=some r):FnOK Tryd.prog 40 [api_Rights_av a1] [.agg (api_Mint_av a0),.ptr (InO 0) 0] (.d (.bool r.1)) [api_Rights_av r.2]:=by
 unfold rights_Check_3_cb at h0
 refine fn_ok (nt:=16) (rs:=[.tmp 3]) Tryd.func40 rfl Tryd.ntmps40 rfl (by simp) (by decide) rfl fun K=>?_
 refine kr [1,2] (by simp;rfl) ?_
 replace h0:=bnd h0;obtain⟨v1,hvv1,h0⟩:=h0
 refine sjv (fun v1_:Bool=>({ nt:=16,env:=[(3,.d (.bool v1_))],box:=[(1000000,[.d (.int .i64 a1.Credentials),.d (.int .i64 a1.Resources),.d (.slice (rowsF api_Grant_row a1.Grants)),.d (.slice (rowsF api_Store_row a1.Stores)),.d (.slice (rowsF api_Mint_row a1.Mints))])],vec:=[]}:St)) (fun v1_=>v1=v1_) (fun v1_ e=>?_) ?_
 ·subst e
  cases h0
  exact trr ⟨[],by simp,rfl,by simp⟩
 ·refine kc1 ?_
  refine ko [1,2,4,6] 3 (by simp;rfl) ?_
  replace hvv1:=bnd hvv1;obtain⟨y2,hy2,hvv1⟩:=hvv1
  refine kcall [1,2,7] [] (rights_credential_ok hy2) rfl rfl rfl Tryd.call25 (by simp) (by simp;rfl) ?_
  refine ko [1,2,9] 2 (by simp;rfl) ?_
  refine tops_split 9 (!y2) (by simp) (fun c3=>?_) (fun c3=>?_)
  ·rw[if_pos c3] at hvv1
   refine kskip 5 [] (by kernel_rfl) ?_
   refine ko [3] 2 (by simp;rfl) ?_
   refine tpN ?_
   cases hvv1
   exact⟨_,rfl,wk (by simp[wkI])⟩
  ·rw[if_neg (by rw[c3];decide)] at hvv1
   refine ko [9,10,12] 3 (by simp;rfl) ?_
   replace hvv1:=bnd hvv1;obtain⟨y3,hy3,hvv1⟩:=hvv1
   refine kcall [9,13] [] (rights_credential_ok hy3) rfl rfl rfl Tryd.call25 (by simp) (by simp;rfl) ?_
   refine ko [3] 3 (by simp;rfl) ?_
   refine tpN ?_
   cases hvv1
   exact⟨_,rfl,wk (by simp[wkI])⟩
theorem sYIndexFunc_api_Mint_at_rights_Check_3_b_ok {a0:List api_Mint} {b10:api_Rights} {r:Int×api_Rights} (h0:sYIndexFunc_api_Mint_at_rights_Check_3_b a0 b10=some r):FnOK Tryd.prog 54 [api_Rights_av b10] [.d (.slice (rowsF api_Mint_row a0)),.fn 40 [.ptr (InO 0) 0]] (.d (.int .i64 r.1)) [api_Rights_av r.2]:=by
 unfold sYIndexFunc_api_Mint_at_rights_Check_3_b at h0
 refine fn_ok (nt:=19) (rs:=[.tmp 4]) Tryd.func54 rfl Tryd.ntmps54 rfl (by simp) (by decide) rfl fun K=>?_
 refine kr [0,1] (by simp;rfl) ?_
 refine trq ?_
 refine kr [0,1,7,8] (by simp;rfl) ?_
 replace h0:=bnd h0;obtain⟨e1,hI1,h0⟩:=h0
 refine tjv (fun v1:Int×Int×(List api_Grant)×(List api_Store)×(List api_Mint)=>({ nt:=19,env:=[],box:=[(1000000,[.d (.int .i64 v1.1),.d (.int .i64 v1.2.1),.d (.slice (rowsF api_Grant_row v1.2.2.1)),.d (.slice (rowsF api_Store_row v1.2.2.2.1)),.d (.slice (rowsF api_Mint_row v1.2.2.2.2))])],vec:=[]}:St)) (fun v1=>.inl v1=e1) (fun v1 hI1e _ W1=>?_) ?_
 ·subst hI1e
  dsimp only at h0
  refine tr_wk W1 ?_
  refine kr [4] (by simp;rfl) ?_
  cases h0
  exact trr ⟨[],by simp,rfl,by simp⟩
 ·refine trb (tr_iter (fun s2:Int×Int×Int×(List api_Grant)×(List api_Store)×(List api_Mint)=>({ nt:=19,env:=[(0,.d (.slice (rowsF api_Mint_row a0))),(1,.fn 40 [.ptr 1000000 0]),(7,.d (.int .i64 ((a0).length:Int))),(8,.d (.int .i64 s2.1))],box:=[(1000000,[.d (.int .i64 s2.2.1),.d (.int .i64 s2.2.2.1),.d (.slice (rowsF api_Grant_row s2.2.2.2.1)),.d (.slice (rowsF api_Store_row s2.2.2.2.2.1)),.d (.slice (rowsF api_Mint_row s2.2.2.2.2.2))])],vec:=[]}:St)) hI1 (wk (by simp[wkI])) fun G1 s2 o1 h1 hg1 he1=>?_)
  unfold sYIndexFunc_api_Mint_at_rights_Check_3_b_l0 at h1
  refine kr [0,1,7,8,9] (by simp;rfl) ?_
  refine trq ?_
  refine trc (b:=(decide (s2.1 < ((a0).length:Int)))) (by simp) (fun c5=>?_) (fun c5=>?_)
  ·rw[if_pos c5] at h1
   refine trk ?_
   refine trq ?_
   refine trb ?_
   refine kr [0,1,5,7,8] (by simp;rfl) ?_
   refine kc ?_
   replace h1:=bnd h1;obtain⟨x3,p3,h1⟩:=h1
   replace p3:=idx_some p3
   have p3':=p3;try simp at p3'
   refine ko [0,1,5,7,8,11,15] 5 (by simp[p3,p3'];rfl) ?_
   replace h1:=bnd h1;obtain⟨y4,hy4,h1⟩:=h1
   refine kcallV [0,1,5,7,8,16] [1000000] [] [] (rights_Check_3_cb_ok hy4) rfl rfl rfl Tryd.call40 (by simp) (by simp;rfl) ?_
   refine tpN ?_
   refine trc (b:=y4.1) (by simp) (fun c6=>?_) (fun c6=>?_)
   ·rw[if_pos c6] at h1
    refine kr [4] (by simp;rfl) ?_
    have k1:=he1 _ (Option.some.inj h1)
    subst k1
    dsimp only at h0
    cases h0
    exact trr ⟨[],by simp,rfl,by simp⟩
   ·rw[if_neg (by rw[c6];decide)] at h1
    refine trk ?_
    refine lr (by simp;rfl) ?_
    exact⟨_,hg1 _ (Option.some.inj h1),wk (by simp[wkI])⟩
  ·rw[if_neg (by rw[c5];decide)] at h1
   refine tr_exit ?_
   exact⟨_,he1 _ (Option.some.inj h1),wk (by simp[wkI])⟩
theorem sYContainsFunc_api_Mint_at_rights_Check_3_b_ok {a0:List api_Mint} {b10:api_Rights} {r:Bool×api_Rights} (h0:sYContainsFunc_api_Mint_at_rights_Check_3_b a0 b10=some r):FnOK Tryd.prog 43 [api_Rights_av b10] [.d (.slice (rowsF api_Mint_row a0)),.fn 40 [.ptr (InO 0) 0]] (.d (.bool r.1)) [api_Rights_av r.2]:=by
 unfold sYContainsFunc_api_Mint_at_rights_Check_3_b at h0
 refine fn_ok (nt:=9) (rs:=[.tmp 4]) Tryd.func43 rfl Tryd.ntmps43 rfl (by simp) (by decide) rfl fun K=>?_
 refine kr [0,1] (by simp;rfl) ?_
 refine kc ?_
 refine ko [5,6] 2 (by simp;rfl) ?_
 replace h0:=bnd h0;obtain⟨y1,hy1,h0⟩:=h0
 refine kcall [7] [1000000] (sYIndexFunc_api_Mint_at_rights_Check_3_b_ok hy1) rfl rfl rfl Tryd.call54 (by simp) (by simp;rfl) ?_
 refine ko [4] 2 (by simp;rfl) ?_
 refine tpN ?_
 cases h0
 exact trr ⟨[],by simp,rfl,by simp⟩
theorem rights_Check_ok {a0:api_Rights} {r:Int} (h0:rights_Check a0=some r):FnOK Tryd.prog 24 [] [.agg (api_Rights_av a0)] (.d (.int .i64 r)) []:=by
 unfold rights_Check at h0
 refine fn_ok (nt:=53) (rs:=[.tmp 2]) Tryd.func24 rfl Tryd.ntmps24 rfl (by simp) (by decide) rfl fun K=>?_
 refine kr [1] (by simp;rfl) ?_
 refine trq ?_
 refine trb ?_
 replace h0:=bnd h0;obtain⟨v1,hvv1,h0⟩:=h0
 refine sjv (fun v1_:Bool=>({ nt:=53,env:=[(1,.ptr 1 0),(6,.d (.bool v1_))],box:=[(1,[.d (.int .i64 a0.Credentials),.d (.int .i64 a0.Resources),.d (.slice (rowsF api_Grant_row a0.Grants)),.d (.slice (rowsF api_Store_row a0.Stores)),.d (.slice (rowsF api_Mint_row a0.Mints))])],vec:=[]}:St)) (fun v1_=>v1=v1_) (fun v1_ e=>?_) ?_
 ·subst e
  refine trc (b:=v1) (by simp) (fun c3=>?_) (fun c3=>?_)
  ·rw[if_pos c3] at h0
   refine kr [2] (by simp;rfl) ?_
   cases h0
   exact trr ⟨[],by simp,rfl,by simp⟩
  ·rw[if_neg (by rw[c3];decide)] at h0
   replace h0:=bnd h0;obtain⟨v2,hvv2,h0⟩:=h0
   refine sjv (fun v2_:Bool=>({ nt:=53,env:=[(1,.ptr 1 0),(17,.d (.bool v2_))],box:=[(1,[.d (.int .i64 a0.Credentials),.d (.int .i64 a0.Resources),.d (.slice (rowsF api_Grant_row a0.Grants)),.d (.slice (rowsF api_Store_row a0.Stores)),.d (.slice (rowsF api_Mint_row a0.Mints))])],vec:=[]}:St)) (fun v2_=>v2=v2_) (fun v2_ e=>?_) ?_
   ·subst e
    refine trc (b:=v2) (by simp) (fun c8=>?_) (fun c8=>?_)
    ·rw[if_pos c8] at h0
     refine kr [2] (by simp;rfl) ?_
     cases h0
     exact trr ⟨[],by simp,rfl,by simp⟩
    ·rw[if_neg (by rw[c8];decide)] at h0
     refine trk ?_
     refine kr [1,3] (by simp;rfl) ?_
     refine kr [1,3,4] (by simp;rfl) ?_
     refine kr [1,3,4,5] (by simp;rfl) ?_
     refine trq ?_
     replace h0:=bnd h0;obtain⟨v3,hvv3,h0⟩:=h0
     refine sjv (fun v3_:Bool=>({ nt:=53,env:=[(52,.d (.bool v3_))],box:=[],vec:=[]}:St)) (fun v3_=>v3=v3_) (fun v3_ e=>?_) ?_
     ·subst e
      refine trc (b:=v3) (by simp) (fun c13=>?_) (fun c13=>?_)
      ·rw[if_pos c13] at h0
       refine kr [2] (by simp;rfl) ?_
       cases h0
       exact trr ⟨[],by simp,rfl,by simp⟩
      ·rw[if_neg (by rw[c13];decide)] at h0
       refine trk ?_
       refine kr [2] (by simp;rfl) ?_
       cases h0
       exact trr ⟨[],by simp,rfl,by simp⟩
     ·refine kc1 ?_
      refine ko [1,4,5,38,39] 3 (by simp;rfl) ?_
      replace hvv3:=bnd hvv3;obtain⟨y4,hy4,hvv3⟩:=hvv3
      refine kcall [1,4,5,40] [1] (sYContainsFunc_api_Grant_at_rights_Check_1_b_ok hy4) rfl rfl rfl Tryd.call41 (by simp) (by simp;rfl) ?_
      refine ko [1,4,5,41] 1 (by simp;rfl) ?_
      refine tops_split 41 y4.1 (by simp) (fun c14=>?_) (fun c14=>?_)
      ·rw[if_pos c14] at hvv3
       refine kskip 4 [] (by kernel_rfl) ?_
       refine ko [1,5,47] 2 (by simp;rfl) ?_
       refine kskip 4 [] (by kernel_rfl) ?_
       refine ko [52] 1 (by simp;rfl) ?_
       refine tpN ?_
       cases hvv3
       exact⟨_,rfl,wk (by simp[wkI])⟩
      ·rw[if_neg (by rw[c14];decide)] at hvv3
       refine ko [1,5,41,43,44] 3 (by simp;rfl) ?_
       replace hvv3:=bnd hvv3;obtain⟨y5,hy5,hvv3⟩:=hvv3
       refine kcall [1,5,41,45] [1] (sYContainsFunc_api_Store_at_rights_Check_2_b_ok hy5) rfl rfl rfl Tryd.call42 (by simp) (by simp;rfl) ?_
       refine ko [1,5,47] 2 (by simp;rfl) ?_
       refine tops_split 47 y5.1 (by simp) (fun c15=>?_) (fun c15=>?_)
       ·rw[if_pos c15] at hvv3
        refine kskip 4 [] (by kernel_rfl) ?_
        refine ko [52] 1 (by simp;rfl) ?_
        refine tpN ?_
        cases hvv3
        exact⟨_,rfl,wk (by simp[wkI])⟩
       ·rw[if_neg (by rw[c15];decide)] at hvv3
        refine ko [47,49,50] 3 (by simp;rfl) ?_
        replace hvv3:=bnd hvv3;obtain⟨y6,hy6,hvv3⟩:=hvv3
        refine kcall [47,51] [1] (sYContainsFunc_api_Mint_at_rights_Check_3_b_ok hy6) rfl rfl rfl Tryd.call43 (by simp) (by simp;rfl) ?_
        refine ko [52] 1 (by simp;rfl) ?_
        refine tpN ?_
        cases hvv3
        exact⟨_,rfl,wk (by simp[wkI])⟩
   ·refine kc1 ?_
    refine ko [1,22] 5 (by simp;rfl) ?_
    refine tops_split 22 (decide (100 < ((a0.Grants).length:Int))) (by simp) (fun c16=>?_) (fun c16=>?_)
    ·rw[c16] at hvv2
     refine kskip 4 [] (by kernel_rfl) ?_
     refine ko [1,28] 2 (by simp;rfl) ?_
     refine kskip 4 [] (by kernel_rfl) ?_
     refine ko [1,17] 2 (by simp;rfl) ?_
     refine tpN ?_
     cases hvv2
     exact⟨_,rfl,wk (by simp[wkI])⟩
    ·rw[c16] at hvv2
     refine ko [1,28] 6 (by simp;rfl) ?_
     refine tops_split 28 (decide (100 < ((a0.Stores).length:Int))) (by simp) (fun c17=>?_) (fun c17=>?_)
     ·rw[c17] at hvv2
      refine kskip 4 [] (by kernel_rfl) ?_
      refine ko [1,17] 2 (by simp;rfl) ?_
      refine tpN ?_
      cases hvv2
      exact⟨_,rfl,wk (by simp[wkI])⟩
     ·rw[c17] at hvv2
      refine ko [1,17] 6 (by simp;rfl) ?_
      refine tpN ?_
      cases hvv2
      exact⟨_,rfl,wk (by simp[wkI])⟩
 ·refine kc1 ?_
  refine ko [1,8] 2 (by simp;rfl) ?_
  replace hvv1:=bnd hvv1;obtain⟨y7,hy7,hvv1⟩:=hvv1
  refine kcall [1,9] [] (rights_among_ok hy7) rfl rfl rfl Tryd.call22 (by simp) (by simp;rfl) ?_
  refine ko [1,11] 2 (by simp;rfl) ?_
  refine tops_split 11 (!y7) (by simp) (fun c18=>?_) (fun c18=>?_)
  ·rw[if_pos c18] at hvv1
   refine kskip 4 [] (by kernel_rfl) ?_
   refine ko [1,6] 2 (by simp;rfl) ?_
   refine tpN ?_
   cases hvv1
   exact⟨_,rfl,wk (by simp[wkI])⟩
  ·rw[if_neg (by rw[c18];decide)] at hvv1
   refine ko [1,11,13] 2 (by simp;rfl) ?_
   replace hvv1:=bnd hvv1;obtain⟨y8,hy8,hvv1⟩:=hvv1
   refine kcall [1,11,14] [] (rights_among_ok hy8) rfl rfl rfl Tryd.call22 (by simp) (by simp;rfl) ?_
   refine ko [1,6] 3 (by simp;rfl) ?_
   refine tpN ?_
   cases hvv1
   exact⟨_,rfl,wk (by simp[wkI])⟩
theorem rights_links_ok {a0:api_Rights} {a1:Int} {r:(List api_Link)} (h0:rights_links a0 a1=some r):FnOK Tryd.prog 31 [] [.agg (api_Rights_av a0),.d (.int .i64 a1)] (.d (.slice (rowsF api_Link_row r))) []:=by
 unfold rights_links at h0
 refine fn_ok (nt:=66) (rs:=[.tmp 4]) Tryd.func31 rfl Tryd.ntmps31 rfl (by simp) (by decide) rfl fun K=>?_
 refine kr [1,2] (by simp;rfl) ?_
 refine kr [1,2,5] (by simp;rfl) ?_
 refine trq ?_
 refine kr [1,2,5,13,14,15] (by simp;rfl) ?_
 refine tr_wk (wk_own 5 28 79 4 (by simp) (by simp)) ?_
 replace h0:=bnd h0;obtain⟨e1,hI1,h0⟩:=h0
 refine tjv (fun v1:(List api_Link)=>({ nt:=66,env:=[(1,.d (.int .i64 a1)),(2,.ptr 2 0),(5,.vec 28)],box:=[(2,[.d (.int .i64 a0.Credentials),.d (.int .i64 a0.Resources),.d (.slice (rowsF api_Grant_row a0.Grants)),.d (.slice (rowsF api_Store_row a0.Stores)),.d (.slice (rowsF api_Mint_row a0.Mints))])],vec:=[(28,⟨79,4,rowsF api_Link_row v1⟩)]}:St)) (fun v1=>v1=e1) (fun v1 hI1e _ W1=>?_) ?_
 ·subst hI1e
  refine tr_wk W1 ?_
  refine trq ?_
  refine kr [1,2,5,31,32,33] (by simp;rfl) ?_
  replace h0:=bnd h0;obtain⟨e2,hI2,h0⟩:=h0
  refine tjv (fun v2:(List api_Link)=>({ nt:=66,env:=[(5,.vec 28)],box:=[],vec:=[(28,⟨79,4,rowsF api_Link_row v2⟩)]}:St)) (fun v2=>v2=e2) (fun v2 hI2e _ W2=>?_) ?_
  ·subst hI2e
   refine tr_wk W2 ?_
   refine kr [4] (by simp;rfl) ?_
   cases h0
   exact trr ⟨[28],by simp,rfl,by simp⟩
  ·refine trb (tr_iter (fun s3:Int×(List api_Link)=>({ nt:=66,env:=[(1,.d (.int .i64 a1)),(2,.ptr 2 0),(5,.vec 28),(31,.d (.slice (rowsF api_Grant_row a0.Grants))),(32,.d (.int .i64 ((a0.Grants).length:Int))),(33,.d (.int .i64 s3.1))],box:=[(2,[.d (.int .i64 a0.Credentials),.d (.int .i64 a0.Resources),.d (.slice (rowsF api_Grant_row a0.Grants)),.d (.slice (rowsF api_Store_row a0.Stores)),.d (.slice (rowsF api_Mint_row a0.Mints))])],vec:=[(28,⟨79,4,rowsF api_Link_row s3.2⟩)]}:St)) hI2 (wk (by simp[wkI])) fun G2 s3 o2 h2 hg2 he2=>?_)
   unfold rights_links_l1 at h2
   refine kr [1,2,5,31,32,33,34] (by simp;rfl) ?_
   refine trq ?_
   refine trc (b:=(decide (s3.1 < ((a0.Grants).length:Int)))) (by simp) (fun c21=>?_) (fun c21=>?_)
   ·rw[if_pos c21] at h2
    refine trk ?_
    refine trq ?_
    refine trb ?_
    replace h2:=bnd h2;obtain⟨x4,p22,h2⟩:=h2
    replace p22:=idx_some p22
    have p22':=p22;try simp at p22'
    refine kr [1,2,5,8,9,31,32,33] (by simp[p22,p22'];rfl) ?_
    refine kr [1,2,5,8,9,31,32,33,39,40,41] (by simp;rfl) ?_
    replace h2:=bnd h2;obtain⟨e3,hI3,h2⟩:=h2
    refine tjv (fun v5:(List api_Link)=>({ nt:=66,env:=[(1,.d (.int .i64 a1)),(2,.ptr 2 0),(5,.vec 28),(31,.d (.slice (rowsF api_Grant_row a0.Grants))),(32,.d (.int .i64 ((a0.Grants).length:Int))),(33,.d (.int .i64 s3.1))],box:=[(2,[.d (.int .i64 a0.Credentials),.d (.int .i64 a0.Resources),.d (.slice (rowsF api_Grant_row a0.Grants)),.d (.slice (rowsF api_Store_row a0.Stores)),.d (.slice (rowsF api_Mint_row a0.Mints))])],vec:=[(28,⟨79,4,rowsF api_Link_row v5⟩)]}:St)) (fun v5=>v5=e3) (fun v5 hI3e _ W3=>?_) ?_
    ·subst hI3e
     refine tr_wk W3 ?_
     refine lr (by simp;rfl) ?_
     exact⟨_,hg2 _ (Option.some.inj h2),wk (by simp[wkI])⟩
    ·refine trb (tr_iter (fun s6:Int×(List api_Link)=>({ nt:=66,env:=[(1,.d (.int .i64 a1)),(2,.ptr 2 0),(5,.vec 28),(8,.d (.int .i64 s3.1)),(9,.ptr 9 0),(31,.d (.slice (rowsF api_Grant_row a0.Grants))),(32,.d (.int .i64 ((a0.Grants).length:Int))),(33,.d (.int .i64 s3.1)),(39,.d (.slice (rowsF api_Store_row a0.Stores))),(40,.d (.int .i64 ((a0.Stores).length:Int))),(41,.d (.int .i64 s6.1))],box:=[(2,[.d (.int .i64 a0.Credentials),.d (.int .i64 a0.Resources),.d (.slice (rowsF api_Grant_row a0.Grants)),.d (.slice (rowsF api_Store_row a0.Stores)),.d (.slice (rowsF api_Mint_row a0.Mints))]),(9,[.d (.int .i64 x4.Credential),.d (.int .i64 x4.Resource),.d (.int .i64 x4.Right)])],vec:=[(28,⟨79,4,rowsF api_Link_row s6.2⟩)]}:St)) hI3 (wk (by simp[wkI])) fun G3 s6 o3 h3 hg3 he3=>?_)
     unfold rights_links_l2 at h3
     refine kr [1,2,5,8,9,31,32,33,39,40,41,42] (by simp;rfl) ?_
     refine trq ?_
     refine trc (b:=(decide (s6.1 < ((a0.Stores).length:Int)))) (by simp) (fun c28=>?_) (fun c28=>?_)
     ·rw[if_pos c28] at h3
      refine trk ?_
      refine trq ?_
      refine trb ?_
      replace h3:=bnd h3;obtain⟨x7,p29,h3⟩:=h3
      replace p29:=idx_some p29
      have p29':=p29;try simp at p29'
      refine kr [1,2,5,8,9,10,11,31,32,33,39,40,41] (by simp[p29,p29'];rfl) ?_
      replace h3:=bnd h3;obtain⟨v8,hvv8,h3⟩:=h3
      refine sjv (fun v8_:Bool=>({ nt:=66,env:=[(1,.d (.int .i64 a1)),(2,.ptr 2 0),(5,.vec 28),(8,.d (.int .i64 s3.1)),(9,.ptr 9 0),(10,.d (.int .i64 s6.1)),(31,.d (.slice (rowsF api_Grant_row a0.Grants))),(32,.d (.int .i64 ((a0.Grants).length:Int))),(33,.d (.int .i64 s3.1)),(39,.d (.slice (rowsF api_Store_row a0.Stores))),(40,.d (.int .i64 ((a0.Stores).length:Int))),(41,.d (.int .i64 s6.1)),(56,.d (.bool v8_))],box:=[(2,[.d (.int .i64 a0.Credentials),.d (.int .i64 a0.Resources),.d (.slice (rowsF api_Grant_row a0.Grants)),.d (.slice (rowsF api_Store_row a0.Stores)),.d (.slice (rowsF api_Mint_row a0.Mints))]),(9,[.d (.int .i64 x4.Credential),.d (.int .i64 x4.Resource),.d (.int .i64 x4.Right)])],vec:=[(28,⟨79,4,rowsF api_Link_row s6.2⟩)]}:St)) (fun v8_=>v8=v8_) (fun v8_ e=>?_) ?_
      ·subst e
       refine trc (b:=v8) (by simp) (fun c31=>?_) (fun c31=>?_)
       ·rw[if_pos c31] at h3
        replace h3:=bnd h3;obtain⟨_,p31,h3⟩:=h3
        replace p31:=ck_some p31
        have p31':=p31;try simp at p31'
        refine lr (by simp[p31,p31'];rfl) ?_
        refine lr (by simp;rfl) ?_
        exact⟨_,hg3 _ (Option.some.inj h3),Wk.trans (wk_ren 62 28) (wk (by simp[wkI]))⟩
       ·rw[if_neg (by rw[c31];decide)] at h3
        refine trk ?_
        refine lr (by simp;rfl) ?_
        exact⟨_,hg3 _ (Option.some.inj h3),wk (by simp[wkI])⟩
      ·refine kc1 ?_
       refine ko [1,2,5,8,9,10,11,31,32,33,39,40,41,50] 5 (by simp;rfl) ?_
       refine tops_split 50 (x4.Credential==a1) (by simp) (fun c32=>?_) (fun c32=>?_)
       ·rw[c32] at hvv8
        refine ko [1,2,5,8,9,10,31,32,33,39,40,41,51,52,53,54,55,56] 6 (by simp;rfl) ?_
        refine tpN ?_
        cases hvv8
        exact⟨_,rfl,wk (by simp[wkI])⟩
       ·rw[c32] at hvv8
        refine kskip 5 [] (by kernel_rfl) ?_
        refine ko [1,2,5,8,9,10,31,32,33,39,40,41,56] 1 (by simp;rfl) ?_
        refine tpN ?_
        cases hvv8
        exact⟨_,rfl,wk (by simp[wkI])⟩
     ·rw[if_neg (by rw[c28];decide)] at h3
      refine tr_exit ?_
      exact⟨_,he3 _ (Option.some.inj h3),wk (by simp[wkI])⟩
   ·rw[if_neg (by rw[c21];decide)] at h2
    refine tr_exit ?_
    exact⟨_,he2 _ (Option.some.inj h2),wk (by simp[wkI])⟩
 ·refine trb (tr_iter (fun s9:Int×(List api_Link)=>({ nt:=66,env:=[(1,.d (.int .i64 a1)),(2,.ptr 2 0),(5,.vec 28),(13,.d (.slice (rowsF api_Mint_row a0.Mints))),(14,.d (.int .i64 ((a0.Mints).length:Int))),(15,.d (.int .i64 s9.1))],box:=[(2,[.d (.int .i64 a0.Credentials),.d (.int .i64 a0.Resources),.d (.slice (rowsF api_Grant_row a0.Grants)),.d (.slice (rowsF api_Store_row a0.Stores)),.d (.slice (rowsF api_Mint_row a0.Mints))])],vec:=[(28,⟨79,4,rowsF api_Link_row s9.2⟩)]}:St)) hI1 (wk (by simp[wkI])) fun G3 s9 o3 h3 hg3 he3=>?_)
  unfold rights_links_l0 at h3
  refine kr [1,2,5,13,14,15,16] (by simp;rfl) ?_
  refine trq ?_
  refine trc (b:=(decide (s9.1 < ((a0.Mints).length:Int)))) (by simp) (fun c33=>?_) (fun c33=>?_)
  ·rw[if_pos c33] at h3
   refine trk ?_
   refine trq ?_
   refine trb ?_
   replace h3:=bnd h3;obtain⟨x10,p32,h3⟩:=h3
   replace p32:=idx_some p32
   have p32':=p32;try simp at p32'
   refine kr [1,2,5,6,7,13,14,15] (by simp[p32,p32'];rfl) ?_
   refine kr [1,2,5,6,13,14,15,23] (by simp;rfl) ?_
   refine trc (b:=(x10.From==a1)) (by simp) (fun c34=>?_) (fun c34=>?_)
   ·rw[if_pos c34] at h3
    replace h3:=bnd h3;obtain⟨_,p34,h3⟩:=h3
    replace p34:=ck_some p34
    have p34':=p34;try simp at p34'
    refine lr (by simp[p34,p34'];rfl) ?_
    refine lr (by simp;rfl) ?_
    exact⟨_,hg3 _ (Option.some.inj h3),wk (by simp[wkI])⟩
   ·rw[if_neg (by rw[c34];decide)] at h3
    refine trk ?_
    refine lr (by simp;rfl) ?_
    exact⟨_,hg3 _ (Option.some.inj h3),wk (by simp[wkI])⟩
  ·rw[if_neg (by rw[c33];decide)] at h3
   refine tr_exit ?_
   exact⟨_,he3 _ (Option.some.inj h3),wk (by simp[wkI])⟩
theorem rights_follow_ok {a0:api_Rights} {a1:Int} {a2:api_Link} {r:Int×Bool} (h0:rights_follow a0 a1 a2=some r):FnOK Tryd.prog 27 [] [.agg (api_Rights_av a0),.d (.int .i64 a1),.agg (api_Link_av a2)] (.tup [.d (.int .i64 r.1),.d (.bool r.2)]) []:=by
 unfold rights_follow at h0
 refine fn_ok (nt:=111) (rs:=[.tmp 6,.tmp 7]) Tryd.func27 rfl Tryd.ntmps27 rfl (by simp) (by decide) rfl fun K=>?_
 refine kr [1,3,5] (by simp;rfl) ?_
 refine trq ?_
 refine trb ?_
 replace h0:=bnd h0;obtain⟨v1,hvv1,h0⟩:=h0
 refine sjv (fun v1_:Bool=>({ nt:=111,env:=[(1,.d (.int .i64 a1)),(3,.ptr 3 0),(5,.ptr 5 0),(8,.d (.bool v1_))],box:=[(3,[.d (.int .i64 a0.Credentials),.d (.int .i64 a0.Resources),.d (.slice (rowsF api_Grant_row a0.Grants)),.d (.slice (rowsF api_Store_row a0.Stores)),.d (.slice (rowsF api_Mint_row a0.Mints))]),(5,[.d (.int .i64 a2.Kind),.d (.int .i64 a2.Grant),.d (.int .i64 a2.Store),.d (.int .i64 a2.Mint)])],vec:=[]}:St)) (fun v1_=>v1=v1_) (fun v1_ e=>?_) ?_
 ·subst e
  refine trc (b:=v1) (by simp) (fun c9=>?_) (fun c9=>?_)
  ·rw[if_pos c9] at h0
   replace h0:=bnd h0;obtain⟨x2,p3,h0⟩:=h0
   replace p3:=idx_some p3
   have p3':=p3;try simp at p3'
   refine kr [6,7] (by simp[p3,p3'];rfl) ?_
   cases h0
   exact trr ⟨[],by simp,rfl,by simp⟩
  ·rw[if_neg (by rw[c9];decide)] at h0
   replace h0:=bnd h0;obtain⟨v3,hvv3,h0⟩:=h0
   refine sjv (fun v3_:Bool=>({ nt:=111,env:=[(3,.ptr 3 0),(5,.ptr 5 0),(49,.d (.bool v3_))],box:=[(3,[.d (.int .i64 a0.Credentials),.d (.int .i64 a0.Resources),.d (.slice (rowsF api_Grant_row a0.Grants)),.d (.slice (rowsF api_Store_row a0.Stores)),.d (.slice (rowsF api_Mint_row a0.Mints))]),(5,[.d (.int .i64 a2.Kind),.d (.int .i64 a2.Grant),.d (.int .i64 a2.Store),.d (.int .i64 a2.Mint)])],vec:=[]}:St)) (fun v3_=>v3=v3_) (fun v3_ e=>?_) ?_
   ·subst e
    refine trc (b:=v3) (by simp) (fun c40=>?_) (fun c40=>?_)
    ·rw[if_pos c40] at h0
     replace h0:=bnd h0;obtain⟨x4,p16,h0⟩:=h0
     replace p16:=idx_some p16
     have p16':=p16;try simp at p16'
     refine kr [6,7] (by simp[p16,p16'];rfl) ?_
     cases h0
     exact trr ⟨[],by simp,rfl,by simp⟩
    ·rw[if_neg (by rw[c40];decide)] at h0
     refine trk ?_
     refine kr [6,7] (by simp;rfl) ?_
     cases h0
     exact trr ⟨[],by simp,rfl,by simp⟩
   ·refine kd1 [[],[0],[1],[2],[3],[3,4],[3,5],[3,6],[7],[8],[8,9],[8],[8,11],[8,12],[8,13],[8,10,13,14],[8,13,15],[13,16],[13,17],[13,17,18],[13,17],[13,17,20],[13,17,21],[13,17,22],[13,17,19,22,23],[13,17,22,24],[13,22,25],[13,22,26],[13,22,26,27],[13,22,26],[13,22,26,29],[13,22,26,28,30],[13,22,26,31],[13,22,26,32],[13,22,26],[13,22,26,33,34],[13,22,26,35],[13,22,36],[13,22,37],[13,22,37,38],[13,22,37],[13,22,37,40],[13,22,37,39,41],[13,22,37,42],[13,22,37,43],[13,22,37],[13,22,37,45],[13,22,37],[13,22,37,47],[13,22,37,46,48],[13,22,37,49],[13,22,37,50],[13,22,37,44,51],[13,22,37,52],[13,22,53]] [] [] none [] 55 fol (by decide +kernel) (by simp) ?_
    refine dr_go 0 2 rfl (by simp (maxSteps:=1000000);rfl) ?_
    refine dr_go 2 2 rfl (by simp (maxSteps:=1000000);rfl) ?_
    refine dr_split 3 53 (a2.Kind==1) (by simp) (fun c51=>?_) (fun c51=>?_)
    ·rw[if_pos c51] at hvv3
     refine dr_go 4 2 rfl (by simp (maxSteps:=1000000);rfl) ?_
     refine dr_go 6 2 rfl (by simp (maxSteps:=1000000);rfl) ?_
     refine dr_go 8 1 rfl (by simp (maxSteps:=1000000);rfl) ?_
     refine dr_split 8 58 (a2.Mint==(-1)) (by simp) (fun c52=>?_) (fun c52=>?_)
     ·rw[if_pos c52] at hvv3
      refine dr_go 9 2 rfl (by simp (maxSteps:=1000000);rfl) ?_
      refine dr_go 11 2 rfl (by simp (maxSteps:=1000000);rfl) ?_
      refine dr_go 13 2 rfl (by simp (maxSteps:=1000000);rfl) ?_
      replace hvv3:=bnd hvv3;obtain⟨y5,hy5,hvv3⟩:=hvv3
      refine dr_call 15 [] (rights_among_ok hy5) rfl rfl rfl rfl rfl Tryd.call22 (by simp) ?_
      refine dr_go 16 2 rfl (by simp (maxSteps:=1000000);rfl) ?_
      refine dr_split 17 67 y5 (by simp) (fun c53=>?_) (fun c53=>?_)
      ·rw[if_pos c53] at hvv3
       refine dr_go 18 2 rfl (by simp (maxSteps:=1000000);rfl) ?_
       refine dr_go 20 2 rfl (by simp (maxSteps:=1000000);rfl) ?_
       refine dr_go 22 2 rfl (by simp (maxSteps:=1000000);rfl) ?_
       replace hvv3:=bnd hvv3;obtain⟨y6,hy6,hvv3⟩:=hvv3
       refine dr_call 24 [] (rights_among_ok hy6) rfl rfl rfl rfl rfl Tryd.call22 (by simp) ?_
       refine dr_go 25 2 rfl (by simp (maxSteps:=1000000);rfl) ?_
       refine dr_split 26 76 y6 (by simp) (fun c54=>?_) (fun c54=>?_)
       ·rw[if_pos c54] at hvv3
        replace hvv3:=bnd hvv3;obtain⟨x7,p21,hvv3⟩:=hvv3
        replace p21:=idx_some p21
        have p21':=p21;try simp at p21'
        refine dr_go 27 2 rfl (by simp (maxSteps:=1000000) [p21,p21'];rfl) ?_
        refine dr_go 29 2 rfl (by simp (maxSteps:=1000000) [p21,p21'];rfl) ?_
        refine dr_go 31 2 rfl (by simp (maxSteps:=1000000) [p21,p21'];rfl) ?_
        refine dr_go 33 2 rfl (by simp (maxSteps:=1000000) [p21,p21'];rfl) ?_
        refine dr_go 35 2 rfl (by simp (maxSteps:=1000000) [p21,p21'];rfl) ?_
        refine dr_go 37 1 rfl (by simp (maxSteps:=1000000) [p21,p21'];rfl) ?_
        refine dr_split 37 87 (x7.Credential==a1) (by simp) (fun c55=>?_) (fun c55=>?_)
        ·rw[if_pos c55] at hvv3
         replace hvv3:=bnd hvv3;obtain⟨x8,p22,hvv3⟩:=hvv3
         replace p22:=idx_some p22
         have p22':=p22;try simp at p22'
         refine dr_go 38 2 rfl (by simp (maxSteps:=1000000) [p22,p21,p22',p21'];rfl) ?_
         refine dr_go 40 2 rfl (by simp (maxSteps:=1000000) [p22,p21,p22',p21'];rfl) ?_
         refine dr_go 42 2 rfl (by simp (maxSteps:=1000000) [p22,p21,p22',p21'];rfl) ?_
         refine dr_go 44 2 rfl (by simp (maxSteps:=1000000) [p22,p21,p22',p21'];rfl) ?_
         refine dr_go 46 2 rfl (by simp (maxSteps:=1000000) [p22,p21,p22',p21'];rfl) ?_
         refine dr_go 48 2 rfl (by simp (maxSteps:=1000000) [p22,p21,p22',p21'];rfl) ?_
         refine dr_go 50 2 rfl (by simp (maxSteps:=1000000) [p22,p21,p22',p21'];rfl) ?_
         refine dr_go 52 2 rfl (by simp (maxSteps:=1000000) [p22,p21,p22',p21'];rfl) ?_
         refine dr_go 54 1 rfl (by simp (maxSteps:=1000000) [p22,p21,p22',p21'];rfl) ?_
         refine dr_end rfl (tpN ?_)
         cases hvv3
         exact⟨_,rfl,wk (by simp[wkI])⟩
        ·rw[if_neg (by rw[c55];decide)] at hvv3
         refine dr_skip 38 111 [some 88,some 89,some 90,some 91,some 92,some 93,some 94,some 95,some 96,some 97,some 98,some 99,some 100,some 101,some 102] rfl rfl (by decide) (by kernel_rfl) (by simp only[skEf,List.map_cons,List.map_nil,List.cons_append,List.nil_append];rfl) ?_
         refine dr_go 53 2 rfl (by simp (maxSteps:=1000000);rfl) ?_
         refine dr_end rfl (tpN ?_)
         cases hvv3
         exact⟨_,rfl,wk (by simp[wkI])⟩
       ·rw[if_neg (by rw[c54];decide)] at hvv3
        refine dr_skip 27 111 [some 77,some 78,some 79,some 80,some 81,some 82,some 83,some 84,some 85] rfl rfl (by decide) (by kernel_rfl) (by simp only[skEf,List.map_cons,List.map_nil,List.cons_append,List.nil_append];rfl) ?_
        refine dr_go 36 2 rfl (by simp (maxSteps:=1000000);rfl) ?_
        refine dr_skip 38 111 [some 88,some 89,some 90,some 91,some 92,some 93,some 94,some 95,some 96,some 97,some 98,some 99,some 100,some 101,some 102] rfl rfl (by decide) (by kernel_rfl) (by simp only[skEf,List.map_cons,List.map_nil,List.cons_append,List.nil_append];rfl) ?_
        refine dr_go 53 2 rfl (by simp (maxSteps:=1000000);rfl) ?_
        refine dr_end rfl (tpN ?_)
        cases hvv3
        exact⟨_,rfl,wk (by simp[wkI])⟩
      ·rw[if_neg (by rw[c53];decide)] at hvv3
       refine dr_skip 18 111 [some 68,some 69,some 70,some 71,some 72,some 73,some 74] rfl rfl (by decide) (by kernel_rfl) (by simp only[skEf,List.map_cons,List.map_nil,List.cons_append,List.nil_append];rfl) ?_
       refine dr_go 25 2 rfl (by simp (maxSteps:=1000000);rfl) ?_
       refine dr_skip 27 111 [some 77,some 78,some 79,some 80,some 81,some 82,some 83,some 84,some 85] rfl rfl (by decide) (by kernel_rfl) (by simp only[skEf,List.map_cons,List.map_nil,List.cons_append,List.nil_append];rfl) ?_
       refine dr_go 36 2 rfl (by simp (maxSteps:=1000000);rfl) ?_
       refine dr_skip 38 111 [some 88,some 89,some 90,some 91,some 92,some 93,some 94,some 95,some 96,some 97,some 98,some 99,some 100,some 101,some 102] rfl rfl (by decide) (by kernel_rfl) (by simp only[skEf,List.map_cons,List.map_nil,List.cons_append,List.nil_append];rfl) ?_
       refine dr_go 53 2 rfl (by simp (maxSteps:=1000000);rfl) ?_
       refine dr_end rfl (tpN ?_)
       cases hvv3
       exact⟨_,rfl,wk (by simp[wkI])⟩
     ·rw[if_neg (by rw[c52];decide)] at hvv3
      refine dr_skip 9 111 [some 59,some 60,some 61,some 62,some 63,some 64,some 65] rfl rfl (by decide) (by kernel_rfl) (by simp only[skEf,List.map_cons,List.map_nil,List.cons_append,List.nil_append];rfl) ?_
      refine dr_go 16 2 rfl (by simp (maxSteps:=1000000);rfl) ?_
      refine dr_skip 18 111 [some 68,some 69,some 70,some 71,some 72,some 73,some 74] rfl rfl (by decide) (by kernel_rfl) (by simp only[skEf,List.map_cons,List.map_nil,List.cons_append,List.nil_append];rfl) ?_
      refine dr_go 25 2 rfl (by simp (maxSteps:=1000000);rfl) ?_
      refine dr_skip 27 111 [some 77,some 78,some 79,some 80,some 81,some 82,some 83,some 84,some 85] rfl rfl (by decide) (by kernel_rfl) (by simp only[skEf,List.map_cons,List.map_nil,List.cons_append,List.nil_append];rfl) ?_
      refine dr_go 36 2 rfl (by simp (maxSteps:=1000000);rfl) ?_
      refine dr_skip 38 111 [some 88,some 89,some 90,some 91,some 92,some 93,some 94,some 95,some 96,some 97,some 98,some 99,some 100,some 101,some 102] rfl rfl (by decide) (by kernel_rfl) (by simp only[skEf,List.map_cons,List.map_nil,List.cons_append,List.nil_append];rfl) ?_
      refine dr_go 53 2 rfl (by simp (maxSteps:=1000000);rfl) ?_
      refine dr_end rfl (tpN ?_)
      cases hvv3
      exact⟨_,rfl,wk (by simp[wkI])⟩
    ·rw[if_neg (by rw[c51];decide)] at hvv3
     refine dr_skip 4 111 [some 54,some 55,some 56] rfl rfl (by decide) (by kernel_rfl) (by simp only[skEf,List.map_cons,List.map_nil,List.cons_append,List.nil_append];rfl) ?_
     refine dr_go 7 2 rfl (by simp (maxSteps:=1000000);rfl) ?_
     refine dr_skip 9 111 [some 59,some 60,some 61,some 62,some 63,some 64,some 65] rfl rfl (by decide) (by kernel_rfl) (by simp only[skEf,List.map_cons,List.map_nil,List.cons_append,List.nil_append];rfl) ?_
     refine dr_go 16 2 rfl (by simp (maxSteps:=1000000);rfl) ?_
     refine dr_skip 18 111 [some 68,some 69,some 70,some 71,some 72,some 73,some 74] rfl rfl (by decide) (by kernel_rfl) (by simp only[skEf,List.map_cons,List.map_nil,List.cons_append,List.nil_append];rfl) ?_
     refine dr_go 25 2 rfl (by simp (maxSteps:=1000000);rfl) ?_
     refine dr_skip 27 111 [some 77,some 78,some 79,some 80,some 81,some 82,some 83,some 84,some 85] rfl rfl (by decide) (by kernel_rfl) (by simp only[skEf,List.map_cons,List.map_nil,List.cons_append,List.nil_append];rfl) ?_
     refine dr_go 36 2 rfl (by simp (maxSteps:=1000000);rfl) ?_
     refine dr_skip 38 111 [some 88,some 89,some 90,some 91,some 92,some 93,some 94,some 95,some 96,some 97,some 98,some 99,some 100,some 101,some 102] rfl rfl (by decide) (by kernel_rfl) (by simp only[skEf,List.map_cons,List.map_nil,List.cons_append,List.nil_append];rfl) ?_
     refine dr_go 53 2 rfl (by simp (maxSteps:=1000000);rfl) ?_
     refine dr_end rfl (tpN ?_)
     cases hvv3
     exact⟨_,rfl,wk (by simp[wkI])⟩
 ·refine kc1 ?_
  refine ko [1,3,5,12] 4 (by simp;rfl) ?_
  refine tops_split 12 (a2.Kind==2) (by simp) (fun c56=>?_) (fun c56=>?_)
  ·rw[if_pos c56] at hvv1
   refine ko [1,3,5,17] 5 (by simp;rfl) ?_
   refine tops_split 17 (a2.Grant==(-1)) (by simp) (fun c57=>?_) (fun c57=>?_)
   ·rw[if_pos c57] at hvv1
    refine ko [1,3,5,22] 5 (by simp;rfl) ?_
    refine tops_split 22 (a2.Store==(-1)) (by simp) (fun c58=>?_) (fun c58=>?_)
    ·rw[if_pos c58] at hvv1
     refine ko [1,3,5,22,24,28] 6 (by simp;rfl) ?_
     replace hvv1:=bnd hvv1;obtain⟨y9,hy9,hvv1⟩:=hvv1
     refine kcall [1,3,5,22,29] [] (rights_among_ok hy9) rfl rfl rfl Tryd.call22 (by simp) (by simp;rfl) ?_
     refine ko [1,3,5,31] 2 (by simp;rfl) ?_
     refine tops_split 31 y9 (by simp) (fun c59=>?_) (fun c59=>?_)
     ·rw[if_pos c59] at hvv1
      replace hvv1:=bnd hvv1;obtain⟨x10,p23,hvv1⟩:=hvv1
      replace p23:=idx_some p23
      have p23':=p23;try simp at p23'
      refine ko [1,3,5,8] 11 (by simp[p23,p23'];rfl) ?_
      refine tpN ?_
      cases hvv1
      exact⟨_,rfl,wk (by simp[wkI])⟩
     ·rw[if_neg (by rw[c59];decide)] at hvv1
      refine kskip 9 [] (by kernel_rfl) ?_
      refine ko [1,3,5,8] 2 (by simp;rfl) ?_
      refine tpN ?_
      cases hvv1
      exact⟨_,rfl,wk (by simp[wkI])⟩
    ·rw[if_neg (by rw[c58];decide)] at hvv1
     refine kskip 7 [] (by kernel_rfl) ?_
     refine ko [1,3,5,31] 2 (by simp;rfl) ?_
     refine kskip 9 [] (by kernel_rfl) ?_
     refine ko [1,3,5,8] 2 (by simp;rfl) ?_
     refine tpN ?_
     cases hvv1
     exact⟨_,rfl,wk (by simp[wkI])⟩
   ·rw[if_neg (by rw[c57];decide)] at hvv1
    refine kskip 3 [] (by kernel_rfl) ?_
    refine ko [1,3,5,22] 2 (by simp;rfl) ?_
    refine kskip 7 [] (by kernel_rfl) ?_
    refine ko [1,3,5,31] 2 (by simp;rfl) ?_
    refine kskip 9 [] (by kernel_rfl) ?_
    refine ko [1,3,5,8] 2 (by simp;rfl) ?_
    refine tpN ?_
    cases hvv1
    exact⟨_,rfl,wk (by simp[wkI])⟩
  ·rw[if_neg (by rw[c56];decide)] at hvv1
   refine kskip 3 [] (by kernel_rfl) ?_
   refine ko [1,3,5,17] 2 (by simp;rfl) ?_
   refine kskip 3 [] (by kernel_rfl) ?_
   refine ko [1,3,5,22] 2 (by simp;rfl) ?_
   refine kskip 7 [] (by kernel_rfl) ?_
   refine ko [1,3,5,31] 2 (by simp;rfl) ?_
   refine kskip 9 [] (by kernel_rfl) ?_
   refine ko [1,3,5,8] 2 (by simp;rfl) ?_
   refine tpN ?_
   cases hvv1
   exact⟨_,rfl,wk (by simp[wkI])⟩
end Go.Vl
