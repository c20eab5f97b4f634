/- The word package: letter, below, formed, Valid. -/
import Derived.Test.YtkbiecjdcjfhaaaBase
import Derived.Test.YtkbiecjdcjfhaaaLitw
set_option linter.unusedSimpArgs false
set_option linter.unusedVariables false

