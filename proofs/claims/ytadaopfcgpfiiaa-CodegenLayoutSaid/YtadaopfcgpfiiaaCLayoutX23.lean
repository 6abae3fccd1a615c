/- Lemmas, part 23: what the theorem of the last text needs, joined by a program out of the seat's texts PCgx12. -/
import Derived.Test.YtadaopfcgpfiiaaCLayoutX11
namespace Go.Proofs.Ytadaopfcgpfiiaa.PCg
open Go.RowKit Go.Proofs.YtadaopfcgpfiiaaW.PrintWords Go.Proofs.YtadaopfcgpfiiaaW.PrintLast Go.Proofs.YtadaopfcgpfiiaaW.PrintMore
attribute [local go_sem] max2_int min2_int max_two min_two max_three min_three max_four min_four   -- for this text's walks alone
set_option linter.unusedVariables false
set_option linter.unusedSimpArgs false
def ontimeref21_Layout.l0 : Nat → List (S44) → List Int → Int → Int → Option (List Int × Int)
  | 0, _, _, _, _ => none
  | k + 1, x0, x4, x5, x6 => if x6 < (x0.length : Int) then (if x4.length < 17592186044416 then (if 0 ≤ x6 then (ontimeref21_Layout.l0 k x0 (x4 ++ [x5]) (wrap64 (x5 + (mx ((rd_T44 x0 x6).f1) 0))) (wrap64 (x6 + 1))) else (none)) else (none)) else (some (x4, x5))
def ontimeref21_Layout.f (k : Nat) (l0 : List (S44)) : Option (List Int × Int) := ontimeref21_Layout.l0 k l0 ([] : List Int) 0 0
end Go.Proofs.Ytadaopfcgpfiiaa.PCg
