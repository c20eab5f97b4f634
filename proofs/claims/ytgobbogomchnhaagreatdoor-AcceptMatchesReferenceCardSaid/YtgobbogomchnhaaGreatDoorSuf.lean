/- Acceptance from one start, and acceptance after one letter: plain. -/
import Derived.Test.YtgobbogomchnhaaGreatDoorTarjan
set_option linter.unusedSimpArgs false
set_option linter.unusedVariables false

