/- Lemmas, part 15: what the theorem of the last text needs, joined by a program out of the seat's texts PCgx3. -/
import Derived.Test.YtadaopfcgpfiiaaCLayoutX11
namespace Go.Proofs.Ytadaopfcgpfiiaa.PCg
open Go.RowKit Go.Proofs.YtadaopfcgpfiiaaW.PrintWords Go.Proofs.YtadaopfcgpfiiaaW.PrintLast Go.Proofs.YtadaopfcgpfiiaaW.PrintMore
attribute [local go_sem] max2_int min2_int max_two min_two max_three min_three max_four min_four   -- for this text's walks alone
set_option linter.unusedVariables false
set_option linter.unusedSimpArgs false
def ir_Succ.j0 : Nat → Bool → List (S51) → Int → Int → Int → Int → Option (List Int)
  | 0, _, _, _, _, _, _ => none
  | k + 1, x3, x124000, x124001, x124002, x124003, x124004 => if x3 = true then (some (([x124003] : List Int))) else (if x124001 = 2 then (some (([x124003, x124004] : List Int))) else (some ([] : List Int)))
def ir_Succ.f (k : Nat) (l0_0 : List (S51)) (a0_1 : Int) (a0_2 : Int) (a0_3 : Int) (a0_4 : Int) : Option (List Int) := if a0_1 = 1 then (ir_Succ.j0 k (a0_1 == 1) l0_0 a0_1 a0_2 a0_3 a0_4) else (if a0_1 = 2 then (ir_Succ.j0 k (a0_3 == a0_4) l0_0 a0_1 a0_2 a0_3 a0_4) else (ir_Succ.j0 k false l0_0 a0_1 a0_2 a0_3 a0_4))
end Go.Proofs.Ytadaopfcgpfiiaa.PCg
