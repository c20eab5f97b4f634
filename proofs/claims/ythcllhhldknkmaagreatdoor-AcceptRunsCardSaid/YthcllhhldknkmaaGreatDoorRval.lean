/- The document's Valid of automata. -/
import Derived.Test.YthcllhhldknkmaaGreatDoorValid
import Derived.Test.YthcllhhldknkmaaGreatDoorLitw
set_option linter.unusedSimpArgs false
set_option linter.unusedVariables false

