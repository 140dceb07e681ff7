import Derived.Test.YtcbfbefpbjmglaaDoorA0
import Derived.Test.YtcbfbefpbjmglaaDoorA3
namespace Go.Proofs.YtcbfbefpbjmglaaDoor.PA
open Go.RowKit Go.Proofs.YtcbfbefpbjmglaaDoorT Go.Proofs.YtcbfbefpbjmglaaDoorW.PrintWords Go.Proofs.YtcbfbefpbjmglaaDoorW.PrintLast Go.Proofs.YtcbfbefpbjmglaaDoorW.PrintMore
attribute [local go_sem] max2_int min2_int max_two min_two max_three min_three max_four min_four   -- for this text's walks alone
set_option linter.unusedVariables false
set_option linter.unusedSimpArgs false
mutual
def burinref02_name.j0 : Nat → ByteArray → Bool → Option (Int)
 | 0, _, _ => none
 | k + 1, x0, x12 => if x12 = true then (some 0) else (burinref02_name.l0 k x0 1)
def burinref02_name.l0 : Nat → ByteArray → Int → Option (Int)
 | 0, _, _ => none
 | k + 1, x0, x3 => if x3 < (x0.size : Int) then (if 0 ≤ x3 then ((burinref02_letter.f (bt x0 x3)).bind fun t161 => (if t161 = true then (burinref02_name.l0 k x0 (wrap64 (x3 + 1))) else ((burinref02_digit.f (bt x0 x3)).bind fun t162 => (if t162 = true then (burinref02_name.l0 k x0 (wrap64 (x3 + 1))) else (some x3))))) else (none)) else (some x3)
end
end Go.Proofs.YtcbfbefpbjmglaaDoor.PA
