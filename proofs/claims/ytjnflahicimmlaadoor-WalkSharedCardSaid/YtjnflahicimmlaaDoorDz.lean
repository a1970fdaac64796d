/- Walk: what is made by hand. Conditions: none. -/
import Derived.Test.YtjnflahicimmlaaDoorDig
import Derived.Test.YtjnflahicimmlaaDoorDso
import Derived.Test.YtjnflahicimmlaaDoorDxg
set_option linter.unusedSimpArgs false
set_option linter.unusedVariables false

