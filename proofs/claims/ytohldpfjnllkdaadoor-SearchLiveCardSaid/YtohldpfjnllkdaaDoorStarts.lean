/- accept's first places. -/
import Derived.Test.YtohldpfjnllkdaaDoorSearch
set_option linter.unusedSimpArgs false
set_option linter.unusedVariables false

