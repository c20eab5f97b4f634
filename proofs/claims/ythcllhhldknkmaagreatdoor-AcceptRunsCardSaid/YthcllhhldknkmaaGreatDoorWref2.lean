/- The document's Formed and Valid of words. -/
import Derived.Test.YthcllhhldknkmaaGreatDoorWoa
import Derived.Test.YthcllhhldknkmaaGreatDoorLitw
set_option linter.unusedSimpArgs false
set_option linter.unusedVariables false

