import Derived.Test.YtcbfbefpbjmglaaDoorA0
namespace Go.Proofs.YtcbfbefpbjmglaaDoor.PA
open Go.RowKit Go.Proofs.YtcbfbefpbjmglaaDoorT Go.Proofs.YtcbfbefpbjmglaaDoorW.PrintWords Go.Proofs.YtcbfbefpbjmglaaDoorW.PrintLast Go.Proofs.YtcbfbefpbjmglaaDoorW.PrintMore
attribute [local go_sem] max2_int min2_int max_two min_two max_three min_three max_four min_four   -- for this text's walks alone
set_option linter.unusedVariables false
set_option linter.unusedSimpArgs false
def burinref02_quote.l0 : Nat → ByteArray → Int → Option (Int)
 | 0, _, _ => none
 | k + 1, x0, x3 => if x3 < (x0.size : Int) then (if 0 ≤ x3 then (if (bt x0 x3) = 92 then (burinref02_quote.l0 k x0 (wrap64 ((wrap64 (x3 + 1)) + 1))) else (if 0 < (x0.size : Int) then (if (bt x0 x3) = (bt x0 0) then (some (wrap64 (x3 + 1))) else (burinref02_quote.l0 k x0 (wrap64 (x3 + 1)))) else (none))) else (none)) else (some 0)
def burinref02_quote.f (k : Nat) (a0 : ByteArray) : Option (Int) := burinref02_quote.l0 k a0 1
def burinref02_Punct.l0 : Nat → ByteArray → Int → Int → Option (Bool)
 | 0, _, _, _ => none
 | k + 1, x0, x3, x4 => if x4 < 122 then (if 0 ≤ x4 then (if (bt (⟨#[46, 46, 46, 32, 60, 60, 61, 32, 62, 62, 61, 32, 45, 62, 32, 43, 43, 32, 45, 45, 32, 60, 60, 32, 62, 62, 32, 60, 61, 32, 62, 61, 32, 61, 61, 32, 33, 61, 32, 38, 38, 32, 124, 124, 32, 42, 61, 32, 47, 61, 32, 37, 61, 32, 43, 61, 32, 45, 61, 32, 38, 61, 32, 94, 61, 32, 124, 61, 32, 35, 35, 32, 91, 32, 93, 32, 40, 32, 41, 32, 123, 32, 125, 32, 46, 32, 38, 32, 42, 32, 43, 32, 45, 32, 126, 32, 33, 32, 47, 32, 37, 32, 60, 32, 62, 32, 94, 32, 124, 32, 63, 32, 58, 32, 59, 32, 61, 32, 44, 32, 35, 32]⟩ : ByteArray) x4) = 32 then (if 0 ≤ x3 then (if x3 ≤ x4 then (if x4 ≤ 122 then (if ((⟨#[46, 46, 46, 32, 60, 60, 61, 32, 62, 62, 61, 32, 45, 62, 32, 43, 43, 32, 45, 45, 32, 60, 60, 32, 62, 62, 32, 60, 61, 32, 62, 61, 32, 61, 61, 32, 33, 61, 32, 38, 38, 32, 124, 124, 32, 42, 61, 32, 47, 61, 32, 37, 61, 32, 43, 61, 32, 45, 61, 32, 38, 61, 32, 94, 61, 32, 124, 61, 32, 35, 35, 32, 91, 32, 93, 32, 40, 32, 41, 32, 123, 32, 125, 32, 46, 32, 38, 32, 42, 32, 43, 32, 45, 32, 126, 32, 33, 32, 47, 32, 37, 32, 60, 32, 62, 32, 94, 32, 124, 32, 63, 32, 58, 32, 59, 32, 61, 32, 44, 32, 35, 32]⟩ : ByteArray).extract (x3 : Int).toNat (x4 : Int).toNat).toList = x0.toList then (some true) else (burinref02_Punct.l0 k x0 (wrap64 (x4 + 1)) (wrap64 (x4 + 1)))) else (none)) else (none)) else (none)) else (burinref02_Punct.l0 k x0 x3 (wrap64 (x4 + 1)))) else (none)) else (some false)
def burinref02_Punct.f (k : Nat) (a0 : ByteArray) : Option (Bool) := burinref02_Punct.l0 k a0 0 0
end Go.Proofs.YtcbfbefpbjmglaaDoor.PA
