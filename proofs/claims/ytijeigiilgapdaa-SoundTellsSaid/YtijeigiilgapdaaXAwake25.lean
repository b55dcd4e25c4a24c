/-
 prebendlaw25.awake is true.
-/
import Derived.Test.YtijeigiilgapdaaQSoundTellsx10
namespace Go.Proofs.Ytijeigiilgapdaa.XAwk
open Go.RowKit Go.Proofs.Ytijeigiilgapdaa.QSoundTells
theorem awake_true : prebendlaw25_awake.f 80 = some true := by decide +kernel
end Go.Proofs.Ytijeigiilgapdaa.XAwk
