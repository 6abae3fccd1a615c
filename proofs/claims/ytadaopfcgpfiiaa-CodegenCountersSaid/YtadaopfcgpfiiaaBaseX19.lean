/- Lemmas: what the theorem of the claim's last text needs, joined by a program out of the seat's texts PCgx3. -/
import Derived.Test.YtadaopfcgpfiiaaBaseX12
namespace Go.Proofs.Ytadaopfcgpfiiaa.PCg
open Go.RowKit Go.Proofs.YtadaopfcgpfiiaaW.PrintWords Go.Proofs.YtadaopfcgpfiiaaW.PrintLast Go.Proofs.YtadaopfcgpfiiaaW.PrintMore
attribute [local go_sem] max2_int min2_int max_two min_two max_three min_three max_four min_four   -- for this text's walks alone
set_option linter.unusedVariables false
set_option linter.unusedSimpArgs false
def ir_Succ.j0 : Nat → Bool → List (S51) → Int → Int → Int → Int → Option (List Int)
  | 0, _, _, _, _, _, _ => none
  | k + 1, x3, x124000, x124001, x124002, x124003, x124004 => if x3 = true then (some (([x124003] : List Int))) else (if x124001 = 2 then (some (([x124003, x124004] : List Int))) else (some ([] : List Int)))
def ir_Succ.f (k : Nat) (l0_0 : List (S51)) (a0_1 : Int) (a0_2 : Int) (a0_3 : Int) (a0_4 : Int) : Option (List Int) := if a0_1 = 1 then (ir_Succ.j0 k (a0_1 == 1) l0_0 a0_1 a0_2 a0_3 a0_4) else (if a0_1 = 2 then (ir_Succ.j0 k (a0_3 == a0_4) l0_0 a0_1 a0_2 a0_3 a0_4) else (ir_Succ.j0 k false l0_0 a0_1 a0_2 a0_3 a0_4))
set_option maxHeartbeats 8000000 in
set_option maxRecDepth 100000 in
theorem ir_Succ.calls (k : Nat) (A0_0 : Option Addr) (c0_0 : Nat) (l0_0 : List (S51)) (a0_1 : Int) (a0_2 : Int) (a0_3 : Int) (a0_4 : Int) (r : List Int) (w : World) (hr0_0 : Kd.C k51 w A0_0 l0_0.length l0_0) (hc0_0 : l0_0.length ≤ c0_0) (h : ir_Succ.f k l0_0 a0_1 a0_2 a0_3 a0_4 = some r) :
    Calls Try.prog 90 #[.agg #[.slice A0_0 l0_0.length c0_0, .int .u8 a0_1, .int .i64 a0_2, .int .i64 a0_3, .int .i64 a0_4]] w fun e w' => ∃ v0_ : Value, e = .returned (v0_) ∧ Kd.R (Kd.int .i64) 3 w' w.heap.size (fun _ => True) v0_ r ∧ Below w.heap.size w w' := by
  have hu49 := Try.underlying49
  have HR0_0 := Aside0.mk hr0_0
  have HC0_0 := Aside0.mk hc0_0
  clear hr0_0 hc0_0
  have HB := Aside0.mk (Below.refl w.heap.size w)
  have H : (if a0_1 = 1 then (ir_Succ.j0 k (a0_1 == 1) l0_0 a0_1 a0_2 a0_3 a0_4) else (if a0_1 = 2 then (ir_Succ.j0 k (a0_3 == a0_4) l0_0 a0_1 a0_2 a0_3 a0_4) else (ir_Succ.j0 k false l0_0 a0_1 a0_2 a0_3 a0_4))) = some r := h
  clear h
  have HC2 := Aside0.mk H
  clear H
  go_enter Try.func90, Try.ntmps90
  go_upto_if 3 with (first | ((with_reducible refine gate_dst (N := 1) rfl ?_); refine box_event ?hg (N := 1) ?hd (cs := #[.slice A0_0 l0_0.length c0_0, .int .u8 a0_1, .int .i64 a0_2, .int .i64 a0_3, .int .i64 a0_4]) (t := 49) ?hr ?_; (case hd => rfl); (case hg => rfl); (case hr => first | (go_simp; done) | (go_simp; rfl)); intro gb123 hg w3 hbox hb; have n0_ := Aside0.mk (below_step (by repeat (first | (with_reducible first | exact HB.out | apply below_alloc | apply pw_below_drewN | apply below_drew1) | exact HB.out)) hb); have n1_ := Aside0.mk (hbox); have n2_ := Aside0.mk ((by rw [hg]; exact (below_size (by repeat (first | (with_reducible first | exact HB.out | apply below_alloc | apply pw_below_drewN | apply below_drew1) | exact HB.out))) : w.heap.size ≤ gb123)); have n3_ := Aside0.mk ((by rw [hg]; exact (below_size (by repeat (first | (with_reducible first | exact HB.out | apply below_alloc | apply pw_below_drewN | apply below_drew1) | exact HB.out))) : w.heap.size ≤ gb123)); clear HB; have HB := n0_; have BK123 := n1_; have GW123 := n2_; have GE123 := n3_; clear n0_ n1_ n2_ n3_; clear hb hbox hg; have hcz4_0 : w3.cell? ⟨gb123, 0, none⟩ = some (.slice A0_0 l0_0.length c0_0) := (blk_cell BK123.out 0).trans rfl; have hcz4_1 : w3.cell? ⟨gb123, 1, none⟩ = some (.int .u8 a0_1) := (blk_cell BK123.out 1).trans rfl; have hcz4_2 : w3.cell? ⟨gb123, 2, none⟩ = some (.int .i64 a0_2) := (blk_cell BK123.out 2).trans rfl; have hcz4_3 : w3.cell? ⟨gb123, 3, none⟩ = some (.int .i64 a0_3) := (blk_cell BK123.out 3).trans rfl; have hcz4_4 : w3.cell? ⟨gb123, 4, none⟩ = some (.int .i64 a0_4) := (blk_cell BK123.out 4).trans rfl; have hfz4_0 := blk_frozen BK123.out 0; have hfz4_1 := blk_frozen BK123.out 1; have hfz4_2 := blk_frozen BK123.out 2; have hfz4_3 := blk_frozen BK123.out 3; have hfz4_4 := blk_frozen BK123.out 4))
  (try simp only [Act.put, List.setIfInBounds_toArray, List.set_cons_zero, List.set_cons_succ])
  go_cut [3] (fun v3 wc => ∃ (kq : Nat) (x3_1 : Bool), v3 = .bool x3_1 ∧ Aside0 (ir_Succ.j0 kq x3_1 l0_0 a0_1 a0_2 a0_3 a0_4 = some r) ∧ Aside0 (kq ≤ k) ∧ Aside0 (wc.heap[gb123]? = some (.cells #[(.slice A0_0 l0_0.length c0_0), .int .u8 a0_1, .int .i64 a0_2, .int .i64 a0_3, .int .i64 a0_4] 49 (0, 0))) ∧ Aside0 (Below w.heap.size w wc))
  case first =>
    have H := HC2.out
    clear HC2
    by_cases c5 : a0_1 = 1
    · rw [if_pos c5] at H
      have c5b0 : (a0_1 == 1) = true := beq_iff_eq.mpr c5
      have c5b1 : (a0_1 != 1) = false := bne_eq_false_iff_eq.mpr c5
      clear c5
      (first | rw [c5b0] | (simp only [i64_w, i32_w]; rw [c5b0]) | skip)
      have H' := Aside0.mk H
      clear H
      go_wp2
      go_meet
      case rel => exact ⟨_, ((a0_1 == 1)), (by first | rfl | (simp; done) | (simp [*]; done)), H', ⟨by first | omega | exact Nat.le_refl _⟩, ⟨by (with_reducible repeat (first | refine blk_drewN ?_ _ | refine blk_drew ?_ | refine blk_alloc ?_ _)); exact BK123.out⟩, ⟨by repeat (first | (with_reducible first | exact HB.out | apply below_alloc | apply pw_below_drewN | apply below_drew1 | refine below_set ?_ GE123.out) | exact HB.out)⟩⟩
    · rw [if_neg c5] at H
      have c5b0 : (a0_1 == 1) = false := beq_eq_false_iff_ne.mpr c5
      have c5b1 : (a0_1 != 1) = true := bne_iff_ne.mpr c5
      (first | rw [c5b0] | (simp only [i64_w, i32_w]; rw [c5b0]) | skip)
      by_cases c6 : a0_1 = 2
      · rw [if_pos c6] at H
        have c6b0 : (a0_1 == 2) = true := beq_iff_eq.mpr c6
        have c6b1 : (a0_1 != 2) = false := bne_eq_false_iff_eq.mpr c6
        clear c6
        have H' := Aside0.mk H
        clear H
        have hcz7_0 : w3.cell? ⟨gb123, 0, none⟩ = some (.slice A0_0 l0_0.length c0_0) := (blk_cell BK123.out 0).trans rfl
        have hcz7_1 : w3.cell? ⟨gb123, 1, none⟩ = some (.int .u8 a0_1) := (blk_cell BK123.out 1).trans rfl
        have hcz7_2 : w3.cell? ⟨gb123, 2, none⟩ = some (.int .i64 a0_2) := (blk_cell BK123.out 2).trans rfl
        have hcz7_3 : w3.cell? ⟨gb123, 3, none⟩ = some (.int .i64 a0_3) := (blk_cell BK123.out 3).trans rfl
        have hcz7_4 : w3.cell? ⟨gb123, 4, none⟩ = some (.int .i64 a0_4) := (blk_cell BK123.out 4).trans rfl
        have hfz7_0 := blk_frozen BK123.out 0
        have hfz7_1 := blk_frozen BK123.out 1
        have hfz7_2 := blk_frozen BK123.out 2
        have hfz7_3 := blk_frozen BK123.out 3
        have hfz7_4 := blk_frozen BK123.out 4
        go_wp2
        go_meet
        case rel => exact ⟨_, ((a0_3 == a0_4)), (by first | rfl | (simp; done) | (simp [*]; done)), H', ⟨by first | omega | exact Nat.le_refl _⟩, ⟨by (with_reducible repeat (first | refine blk_drewN ?_ _ | refine blk_drew ?_ | refine blk_alloc ?_ _)); exact BK123.out⟩, ⟨by repeat (first | (with_reducible first | exact HB.out | apply below_alloc | apply pw_below_drewN | apply below_drew1 | refine below_set ?_ GE123.out) | exact HB.out)⟩⟩
      · rw [if_neg c6] at H
        have c6b0 : (a0_1 == 2) = false := beq_eq_false_iff_ne.mpr c6
        have c6b1 : (a0_1 != 2) = true := bne_iff_ne.mpr c6
        have H' := Aside0.mk H
        clear H
        have hcz8_0 : w3.cell? ⟨gb123, 0, none⟩ = some (.slice A0_0 l0_0.length c0_0) := (blk_cell BK123.out 0).trans rfl
        have hcz8_1 : w3.cell? ⟨gb123, 1, none⟩ = some (.int .u8 a0_1) := (blk_cell BK123.out 1).trans rfl
        have hcz8_2 : w3.cell? ⟨gb123, 2, none⟩ = some (.int .i64 a0_2) := (blk_cell BK123.out 2).trans rfl
        have hcz8_3 : w3.cell? ⟨gb123, 3, none⟩ = some (.int .i64 a0_3) := (blk_cell BK123.out 3).trans rfl
        have hcz8_4 : w3.cell? ⟨gb123, 4, none⟩ = some (.int .i64 a0_4) := (blk_cell BK123.out 4).trans rfl
        have hfz8_0 := blk_frozen BK123.out 0
        have hfz8_1 := blk_frozen BK123.out 1
        have hfz8_2 := blk_frozen BK123.out 2
        have hfz8_3 := blk_frozen BK123.out 3
        have hfz8_4 := blk_frozen BK123.out 4
        go_wp2
        go_meet
        case rel => exact ⟨_, (false), (by first | rfl | (simp; done) | (simp [*]; done)), H', ⟨by first | omega | exact Nat.le_refl _⟩, ⟨by (with_reducible repeat (first | refine blk_drewN ?_ _ | refine blk_drew ?_ | refine blk_alloc ?_ _)); exact BK123.out⟩, ⟨by repeat (first | (with_reducible first | exact HB.out | apply below_alloc | apply pw_below_drewN | apply below_drew1 | refine below_set ?_ GE123.out) | exact HB.out)⟩⟩
  case rest =>
    clear HC2
    try clear p2
    try clear c5
    try clear c5b0
    try clear c5b1
    try clear c6
    try clear c6b0
    try clear c6b1
    try clear hcz4_0
    try clear hcz4_1
    try clear hcz4_2
    try clear hcz4_3
    try clear hcz4_4
    try clear hcz7_0
    try clear hcz7_1
    try clear hcz7_2
    try clear hcz7_3
    try clear hcz7_4
    try clear hcz8_0
    try clear hcz8_1
    try clear hcz8_2
    try clear hcz8_3
    try clear hcz8_4
    try clear hfz4_0
    try clear hfz4_1
    try clear hfz4_2
    try clear hfz4_3
    try clear hfz4_4
    try clear hfz7_0
    try clear hfz7_1
    try clear hfz7_2
    try clear hfz7_3
    try clear hfz7_4
    try clear hfz8_0
    try clear hfz8_1
    try clear hfz8_2
    try clear hfz8_3
    try clear hfz8_4
    obtain ⟨kq, x3_1, rfl, HA, HJ1, BK123, HB⟩ := hcut
    cases kq with
    | zero => exact absurd HA.out (by simp [ir_Succ.j0])
    | succ kj1 =>
      have H := HA.out
      clear HA
      simp only [ir_Succ.j0] at H
      by_cases c9 : x3_1 = true
      · subst c9
        have H1 : (some (([a0_3] : List Int))) = some r := by rw [if_pos rfl] at H; exact H
        clear H
        have H := H1
        clear H1
        obtain ⟨y124, hy124⟩ : ∃ y_ : List Int, y_ = (([a0_3] : List Int)) := ⟨_, rfl⟩
        replace H : (some y124) = some r := by first | (rw [hy124]; with_reducible exact H) | (have H2_ := (Option.bind_some _ _).symm.trans H; rw [hy124]; with_reducible exact H2_) | (have H2_ := (Option.bind_some _ _).symm.trans H; with_reducible exact H2_) | with_reducible exact H | (rw [hy124]; exact H) | exact H
        have Ny124 := Aside0.mk hy124
        clear hy124
        obtain rfl := Option.some.inj H
        have hcz10_0 : wc.cell? ⟨gb123, 0, none⟩ = some (.slice A0_0 l0_0.length c0_0) := (blk_cell BK123.out 0).trans rfl
        have hcz10_1 : wc.cell? ⟨gb123, 1, none⟩ = some (.int .u8 a0_1) := (blk_cell BK123.out 1).trans rfl
        have hcz10_2 : wc.cell? ⟨gb123, 2, none⟩ = some (.int .i64 a0_2) := (blk_cell BK123.out 2).trans rfl
        have hcz10_3 : wc.cell? ⟨gb123, 3, none⟩ = some (.int .i64 a0_3) := (blk_cell BK123.out 3).trans rfl
        have hcz10_4 : wc.cell? ⟨gb123, 4, none⟩ = some (.int .i64 a0_4) := (blk_cell BK123.out 4).trans rfl
        have hfz10_0 := blk_frozen BK123.out 0
        have hfz10_1 := blk_frozen BK123.out 1
        have hfz10_2 := blk_frozen BK123.out 2
        have hfz10_3 := blk_frozen BK123.out 3
        have hfz10_4 := blk_frozen BK123.out 4
        go_wp2_with (first | ((with_reducible refine gate_dst (N := 19) rfl ?_); refine Kd.R_lit (Kd.int .i64) _ 3 ?hg (N := 19) ?hd (xs := ([a0_3] : List Int)) (inner := [.int .i64 a0_3]) (ok := fun _ => True) (okp := fun _ => True) ?hr ?hp (fun _ hk => hk) trivial (Below.refl _ _) (Nat.le_refl _) (by simp) ?_; (case hd => rfl); (case hg => rfl); (case hr => first | (go_simp; done) | (go_simp; rfl)); (case hp => exact (Reps.one (show Kd.M (Kd.int .i64) _ _ _ a0_3 [.int .i64 a0_3] from rfl) (Reps.none _ _))); intro v125 w11 ho12 hb hg_ hnew_; clear hg_ hnew_; (first | rw [← Ny124.out] at ho12 | (simp only [Int.reduceToNat] at ho12; rw [← Ny124.out] at ho12)); have n0_ := Aside0.mk (Kd.R_lower ho12 (below_size (by repeat (first | (with_reducible first | exact HB.out | apply below_alloc | apply pw_below_drewN | apply below_drew1 | refine below_set ?_ GE123.out) | exact HB.out)))); have n1_ := Aside0.mk (blk_below (g := gb123) (o := .cells #[.slice A0_0 l0_0.length c0_0, .int .u8 a0_1, .int .i64 a0_2, .int .i64 a0_3, .int .i64 a0_4] 49 (0, 0)) (by (with_reducible repeat (first | refine blk_drewN ?_ _ | refine blk_drew ?_ | refine blk_alloc ?_ _)); exact BK123.out) hb); have n2_ := Aside0.mk (below_step (by repeat (first | (with_reducible first | exact HB.out | apply below_alloc | apply pw_below_drewN | apply below_drew1 | refine below_set ?_ GE123.out) | exact HB.out)) hb); clear BK123; clear HB; have HO126 := n0_; have BK123 := n1_; have HB := n2_; clear n0_ n1_ n2_; clear hb ho12))
        go_ret
        exact ⟨_, by first | rfl | (simp [errW_none, errW_some] <;> rfl) | (simp [*, errW_none, errW_some] <;> rfl), by (with_reducible repeat (first | apply Kd.R_alloc | apply Kd.R_drewN | apply Kd.R_drew)); exact HO126.out, by repeat (first | (with_reducible first | exact HB.out | apply below_alloc | apply pw_below_drewN | apply below_drew1 | refine below_set ?_ GE123.out) | exact HB.out)⟩
      · replace c9 := Bool.eq_false_iff.mpr c9
        subst c9
        have H1 : (if a0_1 = 2 then (some (([a0_3, a0_4] : List Int))) else (some ([] : List Int))) = some r := by rw [if_neg (show ¬ (false = true) by decide)] at H; exact H
        clear H
        have H := H1
        clear H1
        by_cases c13 : a0_1 = 2
        · rw [if_pos c13] at H
          have c13b0 : (a0_1 == 2) = true := beq_iff_eq.mpr c13
          have c13b1 : (a0_1 != 2) = false := bne_eq_false_iff_eq.mpr c13
          clear c13
          obtain ⟨y127, hy127⟩ : ∃ y_ : List Int, y_ = (([a0_3, a0_4] : List Int)) := ⟨_, rfl⟩
          replace H : (some y127) = some r := by first | (rw [hy127]; with_reducible exact H) | (have H2_ := (Option.bind_some _ _).symm.trans H; rw [hy127]; with_reducible exact H2_) | (have H2_ := (Option.bind_some _ _).symm.trans H; with_reducible exact H2_) | with_reducible exact H | (rw [hy127]; exact H) | exact H
          have Ny127 := Aside0.mk hy127
          clear hy127
          obtain rfl := Option.some.inj H
          have hcz14_0 : wc.cell? ⟨gb123, 0, none⟩ = some (.slice A0_0 l0_0.length c0_0) := (blk_cell BK123.out 0).trans rfl
          have hcz14_1 : wc.cell? ⟨gb123, 1, none⟩ = some (.int .u8 a0_1) := (blk_cell BK123.out 1).trans rfl
          have hcz14_2 : wc.cell? ⟨gb123, 2, none⟩ = some (.int .i64 a0_2) := (blk_cell BK123.out 2).trans rfl
          have hcz14_3 : wc.cell? ⟨gb123, 3, none⟩ = some (.int .i64 a0_3) := (blk_cell BK123.out 3).trans rfl
          have hcz14_4 : wc.cell? ⟨gb123, 4, none⟩ = some (.int .i64 a0_4) := (blk_cell BK123.out 4).trans rfl
          have hfz14_0 := blk_frozen BK123.out 0
          have hfz14_1 := blk_frozen BK123.out 1
          have hfz14_2 := blk_frozen BK123.out 2
          have hfz14_3 := blk_frozen BK123.out 3
          have hfz14_4 := blk_frozen BK123.out 4
          go_wp2_with (first | ((with_reducible refine gate_dst (N := 28) rfl ?_); refine Kd.R_lit (Kd.int .i64) _ 3 ?hg (N := 28) ?hd (xs := ([a0_3, a0_4] : List Int)) (inner := [.int .i64 a0_3, .int .i64 a0_4]) (ok := fun _ => True) (okp := fun _ => True) ?hr ?hp (fun _ hk => hk) trivial (Below.refl _ _) (Nat.le_refl _) (by simp) ?_; (case hd => rfl); (case hg => rfl); (case hr => first | (go_simp; done) | (go_simp; rfl)); (case hp => exact (Reps.one (show Kd.M (Kd.int .i64) _ _ _ a0_3 [.int .i64 a0_3] from rfl) (Reps.one (show Kd.M (Kd.int .i64) _ _ _ a0_4 [.int .i64 a0_4] from rfl) (Reps.none _ _)))); intro v128 w15 ho16 hb hg_ hnew_; clear hg_ hnew_; (first | rw [← Ny127.out] at ho16 | (simp only [Int.reduceToNat] at ho16; rw [← Ny127.out] at ho16)); have n0_ := Aside0.mk (Kd.R_lower ho16 (below_size (by repeat (first | (with_reducible first | exact HB.out | apply below_alloc | apply pw_below_drewN | apply below_drew1 | refine below_set ?_ GE123.out) | exact HB.out)))); have n1_ := Aside0.mk (blk_below (g := gb123) (o := .cells #[.slice A0_0 l0_0.length c0_0, .int .u8 a0_1, .int .i64 a0_2, .int .i64 a0_3, .int .i64 a0_4] 49 (0, 0)) (by (with_reducible repeat (first | refine blk_drewN ?_ _ | refine blk_drew ?_ | refine blk_alloc ?_ _)); exact BK123.out) hb); have n2_ := Aside0.mk (below_step (by repeat (first | (with_reducible first | exact HB.out | apply below_alloc | apply pw_below_drewN | apply below_drew1 | refine below_set ?_ GE123.out) | exact HB.out)) hb); clear BK123; clear HB; have HO129 := n0_; have BK123 := n1_; have HB := n2_; clear n0_ n1_ n2_; clear hb ho16))
          go_ret
          exact ⟨_, by first | rfl | (simp [errW_none, errW_some] <;> rfl) | (simp [*, errW_none, errW_some] <;> rfl), by (with_reducible repeat (first | apply Kd.R_alloc | apply Kd.R_drewN | apply Kd.R_drew)); exact HO129.out, by repeat (first | (with_reducible first | exact HB.out | apply below_alloc | apply pw_below_drewN | apply below_drew1 | refine below_set ?_ GE123.out) | exact HB.out)⟩
        · rw [if_neg c13] at H
          have c13b0 : (a0_1 == 2) = false := beq_eq_false_iff_ne.mpr c13
          have c13b1 : (a0_1 != 2) = true := bne_iff_ne.mpr c13
          obtain rfl := Option.some.inj H
          have hcz17_0 : wc.cell? ⟨gb123, 0, none⟩ = some (.slice A0_0 l0_0.length c0_0) := (blk_cell BK123.out 0).trans rfl
          have hcz17_1 : wc.cell? ⟨gb123, 1, none⟩ = some (.int .u8 a0_1) := (blk_cell BK123.out 1).trans rfl
          have hcz17_2 : wc.cell? ⟨gb123, 2, none⟩ = some (.int .i64 a0_2) := (blk_cell BK123.out 2).trans rfl
          have hcz17_3 : wc.cell? ⟨gb123, 3, none⟩ = some (.int .i64 a0_3) := (blk_cell BK123.out 3).trans rfl
          have hcz17_4 : wc.cell? ⟨gb123, 4, none⟩ = some (.int .i64 a0_4) := (blk_cell BK123.out 4).trans rfl
          have hfz17_0 := blk_frozen BK123.out 0
          have hfz17_1 := blk_frozen BK123.out 1
          have hfz17_2 := blk_frozen BK123.out 2
          have hfz17_3 := blk_frozen BK123.out 3
          have hfz17_4 := blk_frozen BK123.out 4
          go_wp2
          go_ret
          exact ⟨_, by first | rfl | (simp [errW_none, errW_some] <;> rfl) | (simp [*, errW_none, errW_some] <;> rfl), by first | exact Kd.R_nil _ _ _ _ _ | exact Kd.N_nil _ _ _ _ _ | exact Kd.V_nil _ _ _ _ _ | exact Kd.Q_nil _ _ _ _ _ | exact Kd.S_nil _ _ _ _ _, by repeat (first | (with_reducible first | exact HB.out | apply below_alloc | apply pw_below_drewN | apply below_drew1 | refine below_set ?_ GE123.out) | exact HB.out)⟩
end Go.Proofs.Ytadaopfcgpfiiaa.PCg
