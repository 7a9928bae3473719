import Derived.Test.YtdjkeplekchfdaaPn08
namespace Go.Proofs.Ytdjkeplekchfdaa
open Go.RowKit
set_option linter.unusedSimpArgs false
set_option linter.unusedVariables false
end Go.Proofs.Ytdjkeplekchfdaa
