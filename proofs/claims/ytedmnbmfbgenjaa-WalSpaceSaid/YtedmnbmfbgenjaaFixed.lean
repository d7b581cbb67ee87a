/-
  The walks through the reference's fixed numbers (hstsstoreref03.Fixed, DecodeFixed).
-/
import Derived.Test.YtedmnbmfbgenjaaBase
import Derived.Test.YtedmnbmfbgenjaaCrcBurst
import Derived.Deep.QuietTactic
import Derived.BigQuiet
namespace Go.Proofs.Ytedmnbmfbgenjaa
open Go.RowKit



end Go.Proofs.Ytedmnbmfbgenjaa
