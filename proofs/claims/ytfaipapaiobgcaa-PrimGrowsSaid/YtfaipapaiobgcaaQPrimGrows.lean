/- The law PrimGrows in plain words: what is to be proved. -/
import Derived.Test.YtfaipapaiobgcaaPrimL
import Derived.Test.YtfaipapaiobgcaaMOpen
namespace Go.Proofs.Ytfaipapaiobgcaa.Pure
open Go.RowKit Go.Proofs.Ytfaipapaiobgcaa.PPrimPlays Go.Proofs.Ytfaipapaiobgcaa
end Go.Proofs.Ytfaipapaiobgcaa.Pure
