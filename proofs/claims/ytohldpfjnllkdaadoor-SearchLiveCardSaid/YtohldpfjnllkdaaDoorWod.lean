/- The word package: the normal lasso. -/
import Derived.Test.YtohldpfjnllkdaaDoorWd
set_option linter.unusedSimpArgs false
set_option linter.unusedVariables false

