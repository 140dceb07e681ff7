import Derived.Test.YtcbfbefpbjmglaaDoorA0
import Derived.Test.YtcbfbefpbjmglaaDoorA4
import Derived.Test.YtcbfbefpbjmglaaDoorA5
import Derived.Test.YtcbfbefpbjmglaaDoorA6
namespace Go.Proofs.YtcbfbefpbjmglaaDoor.PA
open Go.RowKit Go.Proofs.YtcbfbefpbjmglaaDoorT Go.Proofs.YtcbfbefpbjmglaaDoorW.PrintWords Go.Proofs.YtcbfbefpbjmglaaDoorW.PrintLast Go.Proofs.YtcbfbefpbjmglaaDoorW.PrintMore
attribute [local go_sem] max2_int min2_int max_two min_two max_three min_three max_four min_four   -- for this text's walks alone
set_option linter.unusedVariables false
set_option linter.unusedSimpArgs false
def burinref02_sign.l0 : Nat → ByteArray → Int → Option (Int)
 | 0, _, _ => none
 | k + 1, x0, x3 => if x3 > 0 then (if 0 ≤ x3 then (if x3 ≤ (x0.size : Int) then ((burinref02_Punct.f k (x0.extract 0 (x3 : Int).toNat)).bind fun t167 => (if t167 = true then (some x3) else (burinref02_sign.l0 k x0 (wrap64 (x3 - 1))))) else (none)) else (none)) else (some 0)
def burinref02_sign.f (k : Nat) (a0 : ByteArray) : Option (Int) := burinref02_sign.l0 k a0 (mn 3 (a0.size : Int))
def burinref02_first.j0 : Nat → ByteArray → Bool → Option (Int × Int)
 | 0, _, _ => none
 | k + 1, x0, x22 => if x22 = true then ((burinref02_quote.f k x0).bind fun t170 => (if 0 < (x0.size : Int) then (if (bt x0 0) = 34 then (some (4, t170)) else (if t170 = 2 then (some (3, 0)) else (some (3, t170)))) else (none))) else ((burinref02_sign.f k x0).bind fun t171 => (if t171 > 0 then (some (5, t171)) else (some (6, 1))))
end Go.Proofs.YtcbfbefpbjmglaaDoor.PA
