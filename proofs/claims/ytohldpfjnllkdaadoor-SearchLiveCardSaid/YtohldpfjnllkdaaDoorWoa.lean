/- The word package: letter, below, formed, Valid. -/
import Derived.Test.YtohldpfjnllkdaaDoorBase
import Derived.Test.YtohldpfjnllkdaaDoorLitw
import Derived.Test.YtohldpfjnllkdaaDoorPvRow
set_option linter.unusedSimpArgs false
set_option linter.unusedVariables false

