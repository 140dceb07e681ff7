import Derived.Test.YtcbfbefpbjmglaaDoorA0
import Derived.Test.YtcbfbefpbjmglaaDoorA3
namespace Go.Proofs.YtcbfbefpbjmglaaDoor.PA
open Go.RowKit Go.Proofs.YtcbfbefpbjmglaaDoorT Go.Proofs.YtcbfbefpbjmglaaDoorW.PrintWords Go.Proofs.YtcbfbefpbjmglaaDoorW.PrintLast Go.Proofs.YtcbfbefpbjmglaaDoorW.PrintMore
attribute [local go_sem] max2_int min2_int max_two min_two max_three min_three max_four min_four   -- for this text's walks alone
set_option linter.unusedVariables false
set_option linter.unusedSimpArgs false
mutual
def burinref02_number.j0 : Nat → ByteArray → Int → Bool → Option (Int)
 | 0, _, _, _ => none
 | k + 1, x0, x3, x12 => if x12 = true then (burinref02_number.j1 k x0 1) else (burinref02_number.j1 k x0 x3)
def burinref02_number.j1 : Nat → ByteArray → Int → Option (Int)
 | 0, _, _ => none
 | k + 1, x0, x3 => if (x0.size : Int) > 1 then (if 0 < (x0.size : Int) then (if (bt x0 0) = 46 then (if 1 < (x0.size : Int) then ((burinref02_digit.f (bt x0 1)).bind fun t164 => (burinref02_number.j2 k x0 x3 t164)) else (none)) else (burinref02_number.j2 k x0 x3 false)) else (none)) else (burinref02_number.j2 k x0 x3 false)
def burinref02_number.j2 : Nat → ByteArray → Int → Bool → Option (Int)
 | 0, _, _, _ => none
 | k + 1, x0, x3, x25 => if x25 = true then (burinref02_number.j3 k x0 2) else (burinref02_number.j3 k x0 x3)
def burinref02_number.j3 : Nat → ByteArray → Int → Option (Int)
 | 0, _, _ => none
 | k + 1, x0, x3 => burinref02_number.l0 k x0 x3
def burinref02_number.l0 : Nat → ByteArray → Int → Option (Int)
 | 0, _, _ => none
 | k + 1, x0, x3 => if x3 > 0 then (burinref02_number.j5 k x0 x3 (decide (x3 < (x0.size : Int)))) else (burinref02_number.j5 k x0 x3 false)
def burinref02_number.j5 : Nat → ByteArray → Int → Bool → Option (Int)
 | 0, _, _, _ => none
 | k + 1, x0, x3, x33 => if x33 = true then (if 0 ≤ (wrap64 (x3 - 1)) then (if (wrap64 (x3 - 1)) < (x0.size : Int) then (if (bt x0 (wrap64 (x3 - 1))) = 101 then (burinref02_number.j6 k x0 x3 true) else (if (bt x0 (wrap64 (x3 - 1))) = 69 then (burinref02_number.j6 k x0 x3 true) else (if (bt x0 (wrap64 (x3 - 1))) = 112 then (burinref02_number.j6 k x0 x3 true) else (burinref02_number.j6 k x0 x3 ((bt x0 (wrap64 (x3 - 1))) == 80))))) else (none)) else (none)) else (some x3)
def burinref02_number.j6 : Nat → ByteArray → Int → Bool → Option (Int)
 | 0, _, _, _ => none
 | k + 1, x0, x3, x4 => if 0 ≤ x3 then (if x3 < (x0.size : Int) then ((burinref02_letter.f (bt x0 x3)).bind fun t165 => (if t165 = true then (burinref02_number.l0 k x0 (wrap64 (x3 + 1))) else ((burinref02_digit.f (bt x0 x3)).bind fun t166 => (if t166 = true then (burinref02_number.l0 k x0 (wrap64 (x3 + 1))) else (if (bt x0 x3) = 46 then (burinref02_number.l0 k x0 (wrap64 (x3 + 1))) else (if x4 = true then (if (bt x0 x3) = 43 then (burinref02_number.l0 k x0 (wrap64 (x3 + 1))) else (if ((bt x0 x3) = 45) then (burinref02_number.l0 k x0 (wrap64 (x3 + 1))) else (some x3))) else (some x3))))))) else (none)) else (none)
end
end Go.Proofs.YtcbfbefpbjmglaaDoor.PA
