/- Joined by port.py: XDi XDj -/
import Derived.Test.YthlbddcllikolaaGreatJi
import Derived.Test.YthlbddcllikolaaGreatJh
set_option linter.unusedVariables false
set_option linter.unusedSimpArgs false

