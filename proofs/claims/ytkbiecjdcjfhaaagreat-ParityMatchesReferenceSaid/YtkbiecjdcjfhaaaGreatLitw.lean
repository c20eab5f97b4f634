/- A part of the proof: no condition. -/
import Derived.Test.YtkbiecjdcjfhaaaGreatLita
set_option linter.unusedSimpArgs false
set_option linter.unusedVariables false
set_option maxRecDepth 100000
set_option maxHeartbeats 16000000

