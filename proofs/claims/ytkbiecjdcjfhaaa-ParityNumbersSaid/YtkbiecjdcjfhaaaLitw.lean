/- A part of the proof: no condition. -/
import Derived.Test.YtkbiecjdcjfhaaaLita
set_option linter.unusedSimpArgs false
set_option linter.unusedVariables false

