/- Lemmas, part 18: what the theorem of the last text needs, joined by a program out of the seat's texts PCgx2. -/
import Derived.Test.YtadaopfcgpfiiaaCLayoutX11
import Derived.Test.YtadaopfcgpfiiaaCLayoutX17
namespace Go.Proofs.Ytadaopfcgpfiiaa.PCg
open Go.RowKit Go.Proofs.YtadaopfcgpfiiaaW.PrintWords Go.Proofs.YtadaopfcgpfiiaaW.PrintLast Go.Proofs.YtadaopfcgpfiiaaW.PrintMore
attribute [local go_sem] max2_int min2_int max_two min_two max_three min_three max_four min_four   -- for this text's walks alone
set_option linter.unusedVariables false
set_option linter.unusedSimpArgs false
attribute [local go_sem high] eqA44
def codegen_Layout.l0 : Nat → List Int → Int → List (S44) → Int → Int → Option (List Int × Int)
  | 0, _, _, _, _, _ => none
  | k + 1, x4, x5, x8, x9, x10 => if x10 < x9 then (if 0 ≤ x10 then (if x10 < (x8.length : Int) then (if x4.length < 17592186044416 then (codegen_Layout.l0 k (x4 ++ [x5]) (wrap64 (x5 + (mx ((rd_T44 x8 x10).f1) 0))) x8 x9 (wrap64 (x10 + 1))) else (none)) else (none)) else (none)) else (some (x4, x5))
def codegen_Layout.f (k : Nat) (l0 : List (S44)) : Option (List Int × Int) := codegen_Layout.l0 k ([] : List Int) 0 l0 (l0.length : Int) 0
theorem codegen_Layout.mono_l : ∀ k, (∀ y0 y1 y2 y3 y4, LeO (codegen_Layout.l0 k y0 y1 y2 y3 y4) (codegen_Layout.l0 (k + 1) y0 y1 y2 y3 y4))
  | 0 => fun _ _ _ _ _ r h => by simp [codegen_Layout.l0] at h
  | k + 1 => by
    have ih0 := codegen_Layout.mono_l k
    · intro y0 y1 y2 y3 y4
      unfold codegen_Layout.l0
      repeat' first
      | (with_reducible exact ih0 _ _ _ _ _)
      | (with_reducible exact LeO.refl _)
      | (with_reducible exact LeO.none _)
      | (with_reducible refine LeO.ite ?_ ?_)
      | (with_reducible refine LeO.bind ?_ (fun _ => ?_))
      | exact ih0 _ _ _ _ _
      | exact LeO.none _
      | refine LeO.ite ?_ ?_
      | refine LeO.bind ?_ (fun _ => ?_)
set_option maxHeartbeats 8000000 in
set_option maxRecDepth 100000 in
theorem codegen_Layout.calls (k : Nat) (A0 : Option Addr) (c0 : Nat) (l0 : List (S44)) (r1 : List Int) (r2 : Int) (w : World) (hr0 : Kd.C k44 w A0 l0.length l0) (hc0 : l0.length ≤ c0) (h : codegen_Layout.f k l0 = some (r1, r2)) :
    Calls Try.prog 15 #[.slice A0 l0.length c0] w fun e w' => ∃ v0_ : Value, e = .returned (.tuple #[v0_, .int .i64 r2]) ∧ Kd.R (Kd.int .i64) 3 w' w.heap.size (fun _ => True) v0_ r1 ∧ Below w.heap.size w w' := by
  have hu44 := Try.underlying44
  have HR0 := Aside0.mk hr0
  have HC0 := Aside0.mk hc0
  clear hr0 hc0
  have HB := Aside0.mk (Below.refl w.heap.size w)
  have H : (codegen_Layout.l0 k ([] : List Int) 0 l0 (l0.length : Int) 0) = some (r1, r2) := h
  clear h
  have H' := Aside0.mk H
  clear H
  go_enter Try.func15, Try.ntmps15
  go_wp2
  go_loopg [4, 5, 10] k (fun kq v4 v5 v10 w' => ∃ (x4_1 : List Int) (x5_1 : Int) (x10_1 : Int), v5 = .int .i64 x5_1 ∧ v10 = .int .i64 x10_1 ∧ Aside0 (codegen_Layout.l0 kq x4_1 x5_1 l0 (l0.length : Int) x10_1 = some (r1, r2)) ∧ Aside0 (kq ≤ k) ∧ Aside0 (Kd.R (Kd.int .i64) 3 w' w.heap.size (fun _ => True) v4 x4_1) ∧ Aside0 (Below w.heap.size w w'))
  case atStart => exact ⟨(([] : List Int)), (0), (0), (by first | rfl | (simp; done) | (simp [*]; done)), (by first | rfl | (simp; done) | (simp [*]; done)), H', ⟨Nat.le_refl _⟩, ⟨by first | exact Kd.R_nil _ _ _ _ _ | exact Kd.N_nil _ _ _ _ _ | exact Kd.V_nil _ _ _ _ _ | exact Kd.Q_nil _ _ _ _ _ | exact Kd.S_nil _ _ _ _ _⟩, ⟨by repeat (first | (with_reducible first | exact HB.out | apply below_alloc | apply pw_below_drewN | apply below_drew1) | exact HB.out)⟩⟩
  case round =>
    clear H'
    try clear c1
    obtain ⟨x4_1, x5_1, x10_1, rfl, rfl, HA, HK1, HO_4, HB⟩ := hrel
    cases gk with
    | zero => exact absurd HA.out (by simp [codegen_Layout.l0])
    | succ k1 =>
      have H := HA.out
      clear HA
      simp only [codegen_Layout.l0] at H
      by_cases c2 : x10_1 < (l0.length : Int)
      · rw [if_pos c2] at H
        have c2b0 : decide (x10_1 < (l0.length : Int)) = true := decide_eq_true c2
        clear c2
        by_cases c3 : 0 ≤ x10_1
        · rw [if_pos c3] at H
          have c3b0 : decide (0 ≤ x10_1) = true := decide_eq_true c3
          clear c3
          by_cases c4 : x10_1 < (l0.length : Int)
          · rw [if_pos c4] at H
            have c4b0 : decide (x10_1 < (l0.length : Int)) = true := decide_eq_true c4
            clear c4
            by_cases c5 : x4_1.length < 17592186044416
            · rw [if_pos c5] at H
              have LMc5 := Aside0.mk c5
              clear c5
              obtain ⟨y106, hy106⟩ : ∃ y_ : List Int, y_ = (x4_1 ++ [x5_1]) := ⟨_, rfl⟩
              replace H : (codegen_Layout.l0 k1 y106 (wrap64 (x5_1 + (mx ((rd_T44 l0 x10_1).f1) 0))) l0 (l0.length : Int) (wrap64 (x10_1 + 1))) = some (r1, r2) := by first | (rw [hy106]; with_reducible exact H) | (have H2_ := (Option.bind_some _ _).symm.trans H; rw [hy106]; with_reducible exact H2_) | (have H2_ := (Option.bind_some _ _).symm.trans H; with_reducible exact H2_) | with_reducible exact H | (rw [hy106]; exact H) | exact H
              have Ny106 := Aside0.mk hy106
              clear hy106
              obtain ⟨ji6, hji6⟩ : ∃ j_ : Int, (mx ((rd_T44 l0 x10_1).f1) 0) = j_ := ⟨_, rfl⟩
              replace H : (codegen_Layout.l0 k1 y106 (wrap64 (x5_1 + (ji6))) l0 (l0.length : Int) (wrap64 (x10_1 + 1))) = some (r1, r2) := by first | (rw [hji6] at H; exact H) | (simp only [hji6] at H ⊢; exact H)
              have hji6_ : (if ((rd_T44 l0 x10_1).f1) < 0 then 0 else ((rd_T44 l0 x10_1).f1)) = ji6 := hji6
              have H' := Aside0.mk H
              clear H
              have p104 : 0 ≤ (x10_1 : Int) := of_decide_eq_true (by first | (with_reducible assumption) | assumption)
              have q104 : x10_1 < (l0.length : Int) := of_decide_eq_true (by first | (with_reducible assumption) | assumption)
              obtain ⟨ad104, e104, hx104_0, hx104_1⟩ := at_T44 HR0.out x10_1 p104 q104
              cases e104
              replace hx104_0 := (HB.out.cell (World.block_lt_of_cell? w _ hx104_0)).trans hx104_0
              replace hx104_1 := (HB.out.cell (World.block_lt_of_cell? w _ hx104_1)).trans hx104_1
              replace p104 := eq_true p104
              replace q104 := eq_true q104
              go_wp2_with (first | ((with_reducible refine gate_dst (N := 7) rfl ?_); refine box_event ?hg (N := 7) ?hd (cs := #[.string (⟨#[]⟩ : ByteArray), .int .i64 0]) (t := 44) ?hr ?_; (case hd => rfl); (case hg => rfl); (case hr => first | (go_simp; done) | (go_simp; rfl)); intro gb105 hg w7 hbox hb; have n0_ := Aside0.mk (Kd.R_below (by (with_reducible repeat (first | apply Kd.R_alloc | apply Kd.R_drewN | apply Kd.R_drew)); exact HO_4.out) hb); have n1_ := Aside0.mk (below_step (by repeat (first | (with_reducible first | exact HB.out | apply below_alloc | apply pw_below_drewN | apply below_drew1) | exact HB.out)) hb); have n2_ := Aside0.mk (hbox); have n3_ := Aside0.mk ((by rw [hg]; exact (below_size (by repeat (first | (with_reducible first | exact HB.out | apply below_alloc | apply pw_below_drewN | apply below_drew1) | exact HB.out))) : w.heap.size ≤ gb105)); have n4_ := Aside0.mk ((by rw [hg]; exact (below_size (by repeat (first | (with_reducible first | exact HB.out | apply below_alloc | apply pw_below_drewN | apply below_drew1) | exact HB.out))) : w.heap.size ≤ gb105)); clear HO_4; clear HB; have HO_4 := n0_; have HB := n1_; have BK105 := n2_; have GW105 := n3_; have GE105 := n4_; clear n0_ n1_ n2_ n3_ n4_; clear hb hbox hg; have hcz8_0 : w7.cell? ⟨gb105, 0, none⟩ = some (.string (⟨#[]⟩ : ByteArray)) := (blk_cell BK105.out 0).trans rfl; have hcz8_1 : w7.cell? ⟨gb105, 1, none⟩ = some (.int .i64 0) := (blk_cell BK105.out 1).trans rfl; have hfz8_0 := blk_frozen BK105.out 0; have hfz8_1 := blk_frozen BK105.out 1) | ((with_reducible refine gate_builtin (b := .append) (xs := #[.tmp 14, .tmp 16]) rfl ?_); at_builtin; refine Kd.R_append (Kd.int .i64) (w0 := w) w.heap.size rfl (.tmp 14) (.tmp 16) 37 3 (.int .i64 0) 8 rfl Try.underlying37 info3 rfl (by decide) (by omega) u4 x4_1 x5_1 [.int .i64 x5_1] (fun _ => True) (fun _ => False) rfl (by first | (go_simp; done) | (go_simp; rfl)) ?aP (fun _ hk => hk.elim) ?aF ?aO ?aB ?aS ?aL ?_; (case aP => exact rfl); (case aB => exact (by repeat (first | (with_reducible first | exact HB.out | apply below_alloc | apply pw_below_drewN | apply below_drew1 | refine below_set ?_ GE105.out) | exact HB.out))); (case aF => exact (fun _ _ => trivial)); (case aO => exact (by (with_reducible repeat (first | apply Kd.R_alloc | apply Kd.R_drewN | apply Kd.R_drew)); exact Kd.R_mono (Kd.R_far (p := ⟨gb105, 1, none⟩) (Kd.R_far (p := ⟨gb105, 0, none⟩) (Kd.R_types HO_4.out BK105.out (by decide)) (fun _ hk => hk.2) (.string ((rd_T44 l0 x10_1).f0))) (fun _ hk => hk.2) (.int .i64 ((rd_T44 l0 x10_1).f1))) (fun _ hk => trivial))); (case aS => exact (below_size (by repeat (first | (with_reducible first | exact HB.out | apply below_alloc | apply pw_below_drewN | apply below_drew1 | refine below_set ?_ GE105.out) | exact HB.out)))); (case aL => have := LMc5.out; omega); intro v107 w9 ho hb hg hat; rw [← Ny106.out] at ho; have n0_ := Aside0.mk (blk_grown (g := gb105) (o := .cells #[.string ((rd_T44 l0 x10_1).f0), .int .i64 ((rd_T44 l0 x10_1).f1)] 44 (0, 0)) (by (with_reducible repeat (first | refine blk_drewN ?_ _ | refine blk_drew ?_ | refine blk_alloc ?_ _)); refine blk_put (cs := #[.string ((rd_T44 l0 x10_1).f0), .int .i64 0]) ?_ 1 _ rfl; (with_reducible repeat (first | refine blk_drewN ?_ _ | refine blk_drew ?_ | refine blk_alloc ?_ _)); refine blk_put (cs := #[.string (⟨#[]⟩ : ByteArray), .int .i64 0]) ?_ 0 _ rfl; (with_reducible repeat (first | refine blk_drewN ?_ _ | refine blk_drew ?_ | refine blk_alloc ?_ _)); exact BK105.out) hg (Kd.R_ne HO_4.out BK105.out (by decide))); have n1_ := Aside0.mk (hb); have n2_ := Aside0.mk (ho); clear BK105; clear HB; clear HO_4; have BK105 := n0_; have HB := n1_; have HO108 := n2_; clear n0_ n1_ n2_; clear ho hb hg hat; have hcz10_0 : w9.cell? ⟨gb105, 0, none⟩ = some (.string ((rd_T44 l0 x10_1).f0)) := (blk_cell BK105.out 0).trans rfl; have hcz10_1 : w9.cell? ⟨gb105, 1, none⟩ = some (.int .i64 ((rd_T44 l0 x10_1).f1)) := (blk_cell BK105.out 1).trans rfl; have hfz10_0 := blk_frozen BK105.out 0; have hfz10_1 := blk_frozen BK105.out 1))
              go_roundg k1
              case measure => have := HK1.out; omega
              case rel => exact ⟨(y106), (wrap64 (x5_1 + (ji6))), (wrap64 (x10_1 + 1)), (by first | rfl | (simp; done) | (simp only [← hji6] <;> (first | rfl | simp)) | (simp [*]; done)), (by first | rfl | (simp; done) | (simp [*]; done)), H', ⟨by have := HK1.out; omega⟩, ⟨by (with_reducible repeat (first | apply Kd.R_alloc | apply Kd.R_drewN | apply Kd.R_drew)); exact HO108.out⟩, ⟨by repeat (first | (with_reducible first | exact HB.out | apply below_alloc | apply pw_below_drewN | apply below_drew1 | refine below_set ?_ GE105.out) | exact HB.out)⟩⟩
            · rw [if_neg c5] at H
              exact absurd H (by simp)
          · rw [if_neg c4] at H
            exact absurd H (by simp)
        · rw [if_neg c3] at H
          exact absurd H (by simp)
      · rw [if_neg c2] at H
        have c2b0 : decide (x10_1 < (l0.length : Int)) = false := decide_eq_false c2
        clear c2
        simp only [Option.some.injEq, Prod.mk.injEq] at H
        obtain ⟨rfl, rfl⟩ := H
        go_wp2
        go_ret2
        exact ⟨_, by first | rfl | (simp [errW_none, errW_some] <;> rfl) | (simp [*, errW_none, errW_some] <;> rfl), by (with_reducible repeat (first | apply Kd.R_alloc | apply Kd.R_drewN | apply Kd.R_drew)); exact HO_4.out, by repeat (first | (with_reducible first | exact HB.out | apply below_alloc | apply pw_below_drewN | apply below_drew1) | exact HB.out)⟩
def api_Array_64.l0 : Nat → List (S44) → Int → Int → ByteArray → Int → Option (Int)
  | 0, _, _, _, _, _ => none
  | k + 1, x0, x7, x8, x110000, x110001 => if x8 < x7 then (if 0 ≤ x8 then (if x8 < (x0.length : Int) then (if (x110000.toList == (((rd_T44 x0 x8).f0).toList) && (x110001 == ((rd_T44 x0 x8).f1))) = true then (some x8) else (api_Array_64.l0 k x0 x7 (wrap64 (x8 + 1)) x110000 x110001)) else (none)) else (none)) else (some (-1))
def api_Array_64.f (k : Nat) (l0 : List (S44)) (a1_0 : ByteArray) (a1_1 : Int) : Option (Int) := api_Array_64.l0 k l0 (l0.length : Int) 0 a1_0 a1_1
theorem api_Array_64.mono_l : ∀ k, (∀ y0 y1 y2 y3 y4, LeO (api_Array_64.l0 k y0 y1 y2 y3 y4) (api_Array_64.l0 (k + 1) y0 y1 y2 y3 y4))
  | 0 => fun _ _ _ _ _ r h => by simp [api_Array_64.l0] at h
  | k + 1 => by
    have ih0 := api_Array_64.mono_l k
    · intro y0 y1 y2 y3 y4
      unfold api_Array_64.l0
      repeat' first
      | (with_reducible exact ih0 _ _ _ _ _)
      | (with_reducible exact LeO.refl _)
      | (with_reducible exact LeO.none _)
      | (with_reducible refine LeO.ite ?_ ?_)
      | (with_reducible refine LeO.bind ?_ (fun _ => ?_))
      | exact ih0 _ _ _ _ _
      | exact LeO.none _
      | refine LeO.ite ?_ ?_
      | refine LeO.bind ?_ (fun _ => ?_)
theorem api_Array_64.mono : ∀ a0 a1 a2 k, LeO (api_Array_64.f k a0 a1 a2) (api_Array_64.f (k + 1) a0 a1 a2) := by
  intro a0 a1 a2 k
  have ih0 := api_Array_64.mono_l k
  unfold api_Array_64.f
  repeat' first
      | (with_reducible exact ih0 _ _ _ _ _)
      | (with_reducible exact LeO.refl _)
      | (with_reducible exact LeO.none _)
      | (with_reducible refine LeO.ite ?_ ?_)
      | (with_reducible refine LeO.bind ?_ (fun _ => ?_))
      | exact ih0 _ _ _ _ _
      | exact LeO.none _
      | refine LeO.ite ?_ ?_
      | refine LeO.bind ?_ (fun _ => ?_)
set_option maxHeartbeats 8000000 in
set_option maxRecDepth 100000 in
theorem api_Array_64.calls (k : Nat) (A0 : Option Addr) (c0 : Nat) (l0 : List (S44)) (a1_0 : ByteArray) (a1_1 : Int) (r : Int) (w : World) (hr0 : Kd.C k44 w A0 l0.length l0) (hc0 : l0.length ≤ c0) (h : api_Array_64.f k l0 a1_0 a1_1 = some r) :
    Calls Try.prog 64 #[.slice A0 l0.length c0, .agg #[.string a1_0, .int .i64 a1_1]] w fun e w' => e = .returned (.int .i64 r) ∧ Below w.heap.size w w' := by
  have hu44 := Try.underlying44
  have HR0 := Aside0.mk hr0
  have HC0 := Aside0.mk hc0
  clear hr0 hc0
  have HB := Aside0.mk (Below.refl w.heap.size w)
  have H : (api_Array_64.l0 k l0 (l0.length : Int) 0 a1_0 a1_1) = some r := h
  clear h
  have H' := Aside0.mk H
  clear H
  go_enter Try.func64, Try.ntmps64
  go_wp2_with (first | ((with_reducible refine gate_dst (N := 3) rfl ?_); refine box_event ?hg (N := 3) ?hd (cs := #[.string a1_0, .int .i64 a1_1]) (t := 44) ?hr ?_; (case hd => rfl); (case hg => rfl); (case hr => first | (go_simp; done) | (go_simp; rfl)); intro gb109 hg w3 hbox hb; have n0_ := Aside0.mk (below_step (by repeat (first | (with_reducible first | exact HB.out | apply below_alloc | apply pw_below_drewN | apply below_drew1) | exact HB.out)) hb); have n1_ := Aside0.mk (hbox); have n2_ := Aside0.mk ((by rw [hg]; exact (below_size (by repeat (first | (with_reducible first | exact HB.out | apply below_alloc | apply pw_below_drewN | apply below_drew1) | exact HB.out))) : w.heap.size ≤ gb109)); have n3_ := Aside0.mk ((by rw [hg]; exact (below_size (by repeat (first | (with_reducible first | exact HB.out | apply below_alloc | apply pw_below_drewN | apply below_drew1) | exact HB.out))) : w.heap.size ≤ gb109)); clear HB; have HB := n0_; have BK109 := n1_; have GW109 := n2_; have GE109 := n3_; clear n0_ n1_ n2_ n3_; clear hb hbox hg))
  repeat (go_quiet (first | ((with_reducible refine gate_dst (N := 3) rfl ?_); refine box_event ?hg (N := 3) ?hd (cs := #[.string a1_0, .int .i64 a1_1]) (t := 44) ?hr ?_; (case hd => rfl); (case hg => rfl); (case hr => first | (go_simp; done) | (go_simp; rfl)); intro gb109 hg w3 hbox hb; have n0_ := Aside0.mk (below_step (by repeat (first | (with_reducible first | exact HB.out | apply below_alloc | apply pw_below_drewN | apply below_drew1) | exact HB.out)) hb); have n1_ := Aside0.mk (hbox); have n2_ := Aside0.mk ((by rw [hg]; exact (below_size (by repeat (first | (with_reducible first | exact HB.out | apply below_alloc | apply pw_below_drewN | apply below_drew1) | exact HB.out))) : w.heap.size ≤ gb109)); have n3_ := Aside0.mk ((by rw [hg]; exact (below_size (by repeat (first | (with_reducible first | exact HB.out | apply below_alloc | apply pw_below_drewN | apply below_drew1) | exact HB.out))) : w.heap.size ≤ gb109)); clear HB; have HB := n0_; have BK109 := n1_; have GW109 := n2_; have GE109 := n3_; clear n0_ n1_ n2_ n3_; clear hb hbox hg)); try go_wp2_with (first | ((with_reducible refine gate_dst (N := 3) rfl ?_); refine box_event ?hg (N := 3) ?hd (cs := #[.string a1_0, .int .i64 a1_1]) (t := 44) ?hr ?_; (case hd => rfl); (case hg => rfl); (case hr => first | (go_simp; done) | (go_simp; rfl)); intro gb109 hg w3 hbox hb; have n0_ := Aside0.mk (below_step (by repeat (first | (with_reducible first | exact HB.out | apply below_alloc | apply pw_below_drewN | apply below_drew1) | exact HB.out)) hb); have n1_ := Aside0.mk (hbox); have n2_ := Aside0.mk ((by rw [hg]; exact (below_size (by repeat (first | (with_reducible first | exact HB.out | apply below_alloc | apply pw_below_drewN | apply below_drew1) | exact HB.out))) : w.heap.size ≤ gb109)); have n3_ := Aside0.mk ((by rw [hg]; exact (below_size (by repeat (first | (with_reducible first | exact HB.out | apply below_alloc | apply pw_below_drewN | apply below_drew1) | exact HB.out))) : w.heap.size ≤ gb109)); clear HB; have HB := n0_; have BK109 := n1_; have GW109 := n2_; have GE109 := n3_; clear n0_ n1_ n2_ n3_; clear hb hbox hg)))
  go_loopg [8] k (fun kq v8 w' => ∃ (x8_1 : Int), v8 = .int .i64 x8_1 ∧ Aside0 (api_Array_64.l0 kq l0 (l0.length : Int) x8_1 a1_0 a1_1 = some r) ∧ Aside0 (kq ≤ k) ∧ Aside0 (w'.heap[gb109]? = some (.cells #[.string a1_0, .int .i64 a1_1] 44 (0, 0))) ∧ Aside0 (Below w.heap.size w w'))
  case atStart => exact ⟨(0), (by first | rfl | (simp; done) | (simp [*]; done)), H', ⟨Nat.le_refl _⟩, ⟨by (with_reducible repeat (first | refine blk_drewN ?_ _ | refine blk_drew ?_ | refine blk_alloc ?_ _)); exact BK109.out⟩, ⟨by repeat (first | (with_reducible first | exact HB.out | apply below_alloc | apply pw_below_drewN | apply below_drew1 | refine below_set ?_ GE109.out) | exact HB.out)⟩⟩
  case round =>
    clear H'
    try clear p2
    obtain ⟨x8_1, rfl, HA, HK1, BK109, HB⟩ := hrel
    cases gk with
    | zero => exact absurd HA.out (by simp [api_Array_64.l0])
    | succ k1 =>
      have H := HA.out
      clear HA
      simp only [api_Array_64.l0] at H
      by_cases c4 : x8_1 < (l0.length : Int)
      · rw [if_pos c4] at H
        have c4b0 : decide (x8_1 < (l0.length : Int)) = true := decide_eq_true c4
        clear c4
        by_cases c5 : 0 ≤ x8_1
        · rw [if_pos c5] at H
          have c5b0 : decide (0 ≤ x8_1) = true := decide_eq_true c5
          clear c5
          by_cases c6 : x8_1 < (l0.length : Int)
          · rw [if_pos c6] at H
            have c6b0 : decide (x8_1 < (l0.length : Int)) = true := decide_eq_true c6
            clear c6
            by_cases c7 : (a1_0.toList == (((rd_T44 l0 x8_1).f0).toList) && (a1_1 == ((rd_T44 l0 x8_1).f1))) = true
            · rw [if_pos c7] at H
              have c7b0 : (a1_0.toList == (((rd_T44 l0 x8_1).f0).toList) && (a1_1 == ((rd_T44 l0 x8_1).f1))) = true := c7
              (try (have c7b1 : decide (a1_0.toList = (((rd_T44 l0 x8_1).f0).toList) && (a1_1 == ((rd_T44 l0 x8_1).f1))) = true := by simpa using c7))
              (try (have c7b2 : (a1_0.toList == (((rd_T44 l0 x8_1).f0).toList) && (a1_1 == ((rd_T44 l0 x8_1).f1))) = true := by simpa using c7))
              clear c7
              obtain rfl := Option.some.inj H
              have hcz8_0 : wr.cell? ⟨gb109, 0, none⟩ = some (.string a1_0) := (blk_cell BK109.out 0).trans rfl
              have hcz8_1 : wr.cell? ⟨gb109, 1, none⟩ = some (.int .i64 a1_1) := (blk_cell BK109.out 1).trans rfl
              have hfz8_0 := blk_frozen BK109.out 0
              have hfz8_1 := blk_frozen BK109.out 1
              have p110 : 0 ≤ (x8_1 : Int) := of_decide_eq_true (by first | (with_reducible assumption) | assumption)
              have q110 : x8_1 < (l0.length : Int) := of_decide_eq_true (by first | (with_reducible assumption) | assumption)
              obtain ⟨ad110, e110, hx110_0, hx110_1⟩ := at_T44 HR0.out x8_1 p110 q110
              cases e110
              replace hx110_0 := (HB.out.cell (World.block_lt_of_cell? w _ hx110_0)).trans hx110_0
              replace hx110_1 := (HB.out.cell (World.block_lt_of_cell? w _ hx110_1)).trans hx110_1
              replace p110 := eq_true p110
              replace q110 := eq_true q110
              go_wp2
              repeat (go_quiet (fail); try go_wp2)
              go_ret
              exact ⟨by first | rfl | (simp [errW_none, errW_some] <;> rfl) | (simp [*, errW_none, errW_some] <;> rfl), by repeat (first | (with_reducible first | exact HB.out | apply below_alloc | apply pw_below_drewN | apply below_drew1 | refine below_set ?_ GE109.out) | exact HB.out)⟩
            · rw [if_neg c7] at H
              have c7b0 : (a1_0.toList == (((rd_T44 l0 x8_1).f0).toList) && (a1_1 == ((rd_T44 l0 x8_1).f1))) = false := by simpa using c7
              (try (have c7b1 : decide (a1_0.toList = (((rd_T44 l0 x8_1).f0).toList) && (a1_1 == ((rd_T44 l0 x8_1).f1))) = false := by simpa using c7))
              (try (have c7b2 : (a1_0.toList == (((rd_T44 l0 x8_1).f0).toList) && (a1_1 == ((rd_T44 l0 x8_1).f1))) = false := by simpa using c7))
              (try (have c7b3 : ¬ (a1_0.toList = (((rd_T44 l0 x8_1).f0).toList) && (a1_1 == ((rd_T44 l0 x8_1).f1))) := by simpa using c7))
              clear c7
              have H' := Aside0.mk H
              clear H
              have hcz9_0 : wr.cell? ⟨gb109, 0, none⟩ = some (.string a1_0) := (blk_cell BK109.out 0).trans rfl
              have hcz9_1 : wr.cell? ⟨gb109, 1, none⟩ = some (.int .i64 a1_1) := (blk_cell BK109.out 1).trans rfl
              have hfz9_0 := blk_frozen BK109.out 0
              have hfz9_1 := blk_frozen BK109.out 1
              have p110 : 0 ≤ (x8_1 : Int) := of_decide_eq_true (by first | (with_reducible assumption) | assumption)
              have q110 : x8_1 < (l0.length : Int) := of_decide_eq_true (by first | (with_reducible assumption) | assumption)
              obtain ⟨ad110, e110, hx110_0, hx110_1⟩ := at_T44 HR0.out x8_1 p110 q110
              cases e110
              replace hx110_0 := (HB.out.cell (World.block_lt_of_cell? w _ hx110_0)).trans hx110_0
              replace hx110_1 := (HB.out.cell (World.block_lt_of_cell? w _ hx110_1)).trans hx110_1
              replace p110 := eq_true p110
              replace q110 := eq_true q110
              go_wp2
              repeat (go_quiet (fail); try go_wp2)
              go_roundg k1
              case measure => have := HK1.out; omega
              case rel => exact ⟨(wrap64 (x8_1 + 1)), (by first | rfl | (simp; done) | (simp [*]; done)), H', ⟨by have := HK1.out; omega⟩, ⟨by (with_reducible repeat (first | refine blk_drewN ?_ _ | refine blk_drew ?_ | refine blk_alloc ?_ _)); exact BK109.out⟩, ⟨by repeat (first | (with_reducible first | exact HB.out | apply below_alloc | apply pw_below_drewN | apply below_drew1 | refine below_set ?_ GE109.out) | exact HB.out)⟩⟩
          · rw [if_neg c6] at H
            exact absurd H (by simp)
        · rw [if_neg c5] at H
          exact absurd H (by simp)
      · rw [if_neg c4] at H
        have c4b0 : decide (x8_1 < (l0.length : Int)) = false := decide_eq_false c4
        clear c4
        obtain rfl := Option.some.inj H
        go_wp2
        repeat (go_quiet (fail); try go_wp2)
        go_ret
        exact ⟨by first | rfl | (simp [errW_none, errW_some] <;> rfl) | (simp [*, errW_none, errW_some] <;> rfl), by repeat (first | (with_reducible first | exact HB.out | apply below_alloc | apply pw_below_drewN | apply below_drew1 | refine below_set ?_ GE109.out) | exact HB.out)⟩
def api_Array_45.f (k : Nat) (l0 : List (S44)) (a1_0 : ByteArray) (a1_1 : Int) : Option (Bool) := (api_Array_64.f k l0 a1_0 a1_1).bind fun t112 => (some (decide (t112 ≥ 0)))
theorem api_Array_45.mono : ∀ a0 a1 a2 k, LeO (api_Array_45.f k a0 a1 a2) (api_Array_45.f (k + 1) a0 a1 a2) := by
  intro a0 a1 a2 k
  unfold api_Array_45.f
  repeat' first
      | (with_reducible exact api_Array_64.mono _ _ _ _)
      | (with_reducible exact LeO.refl _)
      | (with_reducible exact LeO.none _)
      | (with_reducible refine LeO.ite ?_ ?_)
      | (with_reducible refine LeO.bind ?_ (fun _ => ?_))
      | exact api_Array_64.mono _ _ _ _
      | exact LeO.none _
      | refine LeO.ite ?_ ?_
      | refine LeO.bind ?_ (fun _ => ?_)
set_option maxHeartbeats 8000000 in
set_option maxRecDepth 100000 in
theorem api_Array_45.calls (k : Nat) (A0 : Option Addr) (c0 : Nat) (l0 : List (S44)) (a1_0 : ByteArray) (a1_1 : Int) (r : Bool) (w : World) (hr0 : Kd.C k44 w A0 l0.length l0) (hc0 : l0.length ≤ c0) (h : api_Array_45.f k l0 a1_0 a1_1 = some r) :
    Calls Try.prog 45 #[.slice A0 l0.length c0, .agg #[.string a1_0, .int .i64 a1_1]] w fun e w' => e = .returned (.bool r) ∧ Below w.heap.size w w' := by
  have hu44 := Try.underlying44
  have HR0 := Aside0.mk hr0
  have HC0 := Aside0.mk hc0
  clear hr0 hc0
  have HB := Aside0.mk (Below.refl w.heap.size w)
  have H : ((api_Array_64.f k l0 a1_0 a1_1).bind fun t112 => (some (decide (t112 ≥ 0)))) = some r := h
  clear h
  replace H := Option.bind_eq_some_iff.mp H
  obtain ⟨t112, A30, H⟩ := H
  replace H : (some (decide (t112 ≥ 0))) = some r := H
  have A3 := Aside0.mk A30
  clear A30
  obtain rfl := Option.some.inj H
  go_enter Try.func45, Try.ntmps45
  go_wp2_with (first | ((with_reducible refine gate_dst (N := 3) rfl ?_); refine box_event ?hg (N := 3) ?hd (cs := #[.string a1_0, .int .i64 a1_1]) (t := 44) ?hr ?_; (case hd => rfl); (case hg => rfl); (case hr => first | (go_simp; done) | (go_simp; rfl)); intro gb111 hg w4 hbox hb; have n0_ := Aside0.mk (below_step (by repeat (first | (with_reducible first | exact HB.out | apply below_alloc | apply pw_below_drewN | apply below_drew1) | exact HB.out)) hb); have n1_ := Aside0.mk (hbox); have n2_ := Aside0.mk ((by rw [hg]; exact (below_size (by repeat (first | (with_reducible first | exact HB.out | apply below_alloc | apply pw_below_drewN | apply below_drew1) | exact HB.out))) : w.heap.size ≤ gb111)); have n3_ := Aside0.mk ((by rw [hg]; exact (below_size (by repeat (first | (with_reducible first | exact HB.out | apply below_alloc | apply pw_below_drewN | apply below_drew1) | exact HB.out))) : w.heap.size ≤ gb111)); clear HB; have HB := n0_; have BK111 := n1_; have GW111 := n2_; have GE111 := n3_; clear n0_ n1_ n2_ n3_; clear hb hbox hg; have hcz5_0 : w4.cell? ⟨gb111, 0, none⟩ = some (.string a1_0) := (blk_cell BK111.out 0).trans rfl; have hcz5_1 : w4.cell? ⟨gb111, 1, none⟩ = some (.int .i64 a1_1) := (blk_cell BK111.out 1).trans rfl; have hfz5_0 := blk_frozen BK111.out 0; have hfz5_1 := blk_frozen BK111.out 1) | ((with_reducible refine gate_callee (f := 64) rfl ?_); refine goesL_ (some 7) rfl rfl Try.func64 (by kernel_rfl) rfl #[.slice A0 l0.length c0, .agg #[.string a1_0, .int .i64 a1_1]] rfl (by (try simp only [List.map_toArray, List.map_cons, List.map_nil]); first | done | rfl | (simp only [List.length_drop, List.length_take]; rfl)) ?_; (with_reducible refine (api_Array_64.calls k _ _ l0 a1_0 a1_1 t112 _ ?side1 ?side2 A3.out).mono ?_); (case side1 => repeat (first | exact (Kd.C_below HR0.out HB.out) | (with_reducible refine Kd.C_alloc ?_ _) | (with_reducible refine Kd.C_drewN ?_ _) | (with_reducible refine Kd.C_drew ?_))); (case side2 => exact HC0.out); rintro e w6 ⟨rfl, hb⟩; refine ⟨_, rfl, ?_⟩; have n0_ := Aside0.mk (blk_below (g := gb111) (o := .cells #[.string a1_0, .int .i64 a1_1] 44 (0, 0)) (by (with_reducible repeat (first | refine blk_drewN ?_ _ | refine blk_drew ?_ | refine blk_alloc ?_ _)); exact BK111.out) hb); have n1_ := Aside0.mk (below_step (by repeat (first | (with_reducible first | exact HB.out | apply below_alloc | apply pw_below_drewN | apply below_drew1 | refine below_set ?_ GE111.out) | exact HB.out)) hb); clear BK111; clear HB; have BK111 := n0_; have HB := n1_; clear n0_ n1_; (try clear hb); (try clear hb2); (try clear hk); (try clear hi)))
  go_ret
  exact ⟨by first | rfl | (simp [errW_none, errW_some] <;> rfl) | (simp [*, errW_none, errW_some] <;> rfl), by repeat (first | (with_reducible first | exact HB.out | apply below_alloc | apply pw_below_drewN | apply below_drew1 | refine below_set ?_ GE111.out) | exact HB.out)⟩
mutual
def codegen_mentioned.l0 : Nat → List (S44) → List (S49) → Int → Int → Option ((List (S44)))
  | 0, _, _, _, _ => none
  | k + 1, x3, x10, x11, x12 => if x12 < x11 then (if 0 ≤ x12 then (if x12 < (x10.length : Int) then (codegen_mentioned.l1 k x3 x10 x11 x12 ((rd_T49 x10 x12).f0) (((rd_T49 x10 x12).f0).length : Int) 0) else (none)) else (none)) else (some x3)
def codegen_mentioned.l1 : Nat → List (S44) → List (S49) → Int → Int → List (S51) → Int → Int → Option ((List (S44)))
  | 0, _, _, _, _, _, _, _ => none
  | k + 1, x3, x10, x11, x12, x17, x18, x19 => if x19 < x18 then (if 0 ≤ x19 then (if x19 < (x17.length : Int) then (if ((rd_T51 x17 x19).f0) = 6 then (codegen_mentioned.j2 k x3 x10 x11 x12 x17 x18 x19 (((rd_T51 x17 x19).f0) == 6) ((rd_T51 x17 x19).f0) ((rd_T51 x17 x19).f1) ((rd_T51 x17 x19).f2) ((rd_T51 x17 x19).f3) ((rd_T51 x17 x19).f4) ((rd_T51 x17 x19).f5)) else (if ((rd_T51 x17 x19).f0) = 7 then (codegen_mentioned.j2 k x3 x10 x11 x12 x17 x18 x19 (((rd_T51 x17 x19).f0) == 7) ((rd_T51 x17 x19).f0) ((rd_T51 x17 x19).f1) ((rd_T51 x17 x19).f2) ((rd_T51 x17 x19).f3) ((rd_T51 x17 x19).f4) ((rd_T51 x17 x19).f5)) else (if ((rd_T51 x17 x19).f0) = 11 then (codegen_mentioned.j2 k x3 x10 x11 x12 x17 x18 x19 (((rd_T51 x17 x19).f0) == 11) ((rd_T51 x17 x19).f0) ((rd_T51 x17 x19).f1) ((rd_T51 x17 x19).f2) ((rd_T51 x17 x19).f3) ((rd_T51 x17 x19).f4) ((rd_T51 x17 x19).f5)) else (codegen_mentioned.j2 k x3 x10 x11 x12 x17 x18 x19 (((rd_T51 x17 x19).f0) == 12) ((rd_T51 x17 x19).f0) ((rd_T51 x17 x19).f1) ((rd_T51 x17 x19).f2) ((rd_T51 x17 x19).f3) ((rd_T51 x17 x19).f4) ((rd_T51 x17 x19).f5))))) else (none)) else (none)) else (codegen_mentioned.l0 k x3 x10 x11 (wrap64 (x12 + 1)))
def codegen_mentioned.j2 : Nat → List (S44) → List (S49) → Int → Int → List (S51) → Int → Int → Bool → Int → Int → Int → Int → Int → ByteArray → Option ((List (S44)))
  | 0, _, _, _, _, _, _, _, _, _, _, _, _, _, _ => none
  | k + 1, x3, x10, x11, x12, x17, x18, x19, x25, x118000, x118001, x118002, x118003, x118004, x118005 => if x25 = true then ((api_Array_45.f k x3 x118005 1).bind fun t119 => (if t119 = true then (codegen_mentioned.l1 k x3 x10 x11 x12 x17 x18 (wrap64 (x19 + 1))) else (if x3.length < 5864062014805 then (codegen_mentioned.l1 k (x3 ++ [(⟨x118005, 1⟩ : S44)]) x10 x11 x12 x17 x18 (wrap64 (x19 + 1))) else (none)))) else (codegen_mentioned.l1 k x3 x10 x11 x12 x17 x18 (wrap64 (x19 + 1)))
end
def codegen_mentioned.f (k : Nat) (a0_0 : ByteArray) (a0_1 : Int) (l0_2 : List (S44)) (l0_3 : List (S49)) : Option ((List (S44))) := codegen_mentioned.l0 k ([] : List (S44)) l0_3 (l0_3.length : Int) 0
theorem codegen_mentioned.mono_l : ∀ k, (∀ y0 y1 y2 y3, LeO (codegen_mentioned.l0 k y0 y1 y2 y3) (codegen_mentioned.l0 (k + 1) y0 y1 y2 y3)) ∧ (∀ y0 y1 y2 y3 y4 y5 y6, LeO (codegen_mentioned.l1 k y0 y1 y2 y3 y4 y5 y6) (codegen_mentioned.l1 (k + 1) y0 y1 y2 y3 y4 y5 y6)) ∧ (∀ y0 y1 y2 y3 y4 y5 y6 y7 y8 y9 y10 y11 y12 y13, LeO (codegen_mentioned.j2 k y0 y1 y2 y3 y4 y5 y6 y7 y8 y9 y10 y11 y12 y13) (codegen_mentioned.j2 (k + 1) y0 y1 y2 y3 y4 y5 y6 y7 y8 y9 y10 y11 y12 y13))
  | 0 => ⟨fun _ _ _ _ r h => by simp [codegen_mentioned.l0] at h, fun _ _ _ _ _ _ _ r h => by simp [codegen_mentioned.l1] at h, fun _ _ _ _ _ _ _ _ _ _ _ _ _ _ r h => by simp [codegen_mentioned.j2] at h⟩
  | k + 1 => by
    obtain ⟨ih0, ih1, ih2⟩ := codegen_mentioned.mono_l k
    refine ⟨?_, ?_, ?_⟩
    · intro y0 y1 y2 y3
      unfold codegen_mentioned.l0
      repeat' first
      | (with_reducible exact ih0 _ _ _ _)
      | (with_reducible exact ih1 _ _ _ _ _ _ _)
      | (with_reducible exact ih2 _ _ _ _ _ _ _ _ _ _ _ _ _ _)
      | (with_reducible exact api_Array_45.mono _ _ _ _)
      | (with_reducible exact LeO.refl _)
      | (with_reducible exact LeO.none _)
      | (with_reducible refine LeO.ite ?_ ?_)
      | (with_reducible refine LeO.bind ?_ (fun _ => ?_))
      | exact ih0 _ _ _ _
      | exact ih1 _ _ _ _ _ _ _
      | exact ih2 _ _ _ _ _ _ _ _ _ _ _ _ _ _
      | exact api_Array_45.mono _ _ _ _
      | exact LeO.none _
      | refine LeO.ite ?_ ?_
      | refine LeO.bind ?_ (fun _ => ?_)
    · intro y0 y1 y2 y3 y4 y5 y6
      unfold codegen_mentioned.l1
      repeat' first
      | (with_reducible exact ih0 _ _ _ _)
      | (with_reducible exact ih1 _ _ _ _ _ _ _)
      | (with_reducible exact ih2 _ _ _ _ _ _ _ _ _ _ _ _ _ _)
      | (with_reducible exact api_Array_45.mono _ _ _ _)
      | (with_reducible exact LeO.refl _)
      | (with_reducible exact LeO.none _)
      | (with_reducible refine LeO.ite ?_ ?_)
      | (with_reducible refine LeO.bind ?_ (fun _ => ?_))
      | exact ih0 _ _ _ _
      | exact ih1 _ _ _ _ _ _ _
      | exact ih2 _ _ _ _ _ _ _ _ _ _ _ _ _ _
      | exact api_Array_45.mono _ _ _ _
      | exact LeO.none _
      | refine LeO.ite ?_ ?_
      | refine LeO.bind ?_ (fun _ => ?_)
    · intro y0 y1 y2 y3 y4 y5 y6 y7 y8 y9 y10 y11 y12 y13
      unfold codegen_mentioned.j2
      repeat' first
      | (with_reducible exact ih0 _ _ _ _)
      | (with_reducible exact ih1 _ _ _ _ _ _ _)
      | (with_reducible exact ih2 _ _ _ _ _ _ _ _ _ _ _ _ _ _)
      | (with_reducible exact api_Array_45.mono _ _ _ _)
      | (with_reducible exact LeO.refl _)
      | (with_reducible exact LeO.none _)
      | (with_reducible refine LeO.ite ?_ ?_)
      | (with_reducible refine LeO.bind ?_ (fun _ => ?_))
      | exact ih0 _ _ _ _
      | exact ih1 _ _ _ _ _ _ _
      | exact ih2 _ _ _ _ _ _ _ _ _ _ _ _ _ _
      | exact api_Array_45.mono _ _ _ _
      | exact LeO.none _
      | refine LeO.ite ?_ ?_
      | refine LeO.bind ?_ (fun _ => ?_)
theorem codegen_mentioned.mono : ∀ a0 a1 a2 a3 k, LeO (codegen_mentioned.f k a0 a1 a2 a3) (codegen_mentioned.f (k + 1) a0 a1 a2 a3) := by
  intro a0 a1 a2 a3 k
  obtain ⟨ih0, ih1, ih2⟩ := codegen_mentioned.mono_l k
  unfold codegen_mentioned.f
  repeat' first
      | (with_reducible exact ih0 _ _ _ _)
      | (with_reducible exact ih1 _ _ _ _ _ _ _)
      | (with_reducible exact ih2 _ _ _ _ _ _ _ _ _ _ _ _ _ _)
      | (with_reducible exact api_Array_45.mono _ _ _ _)
      | (with_reducible exact LeO.refl _)
      | (with_reducible exact LeO.none _)
      | (with_reducible refine LeO.ite ?_ ?_)
      | (with_reducible refine LeO.bind ?_ (fun _ => ?_))
      | exact ih0 _ _ _ _
      | exact ih1 _ _ _ _ _ _ _
      | exact ih2 _ _ _ _ _ _ _ _ _ _ _ _ _ _
      | exact api_Array_45.mono _ _ _ _
      | exact LeO.none _
      | refine LeO.ite ?_ ?_
      | refine LeO.bind ?_ (fun _ => ?_)
set_option maxHeartbeats 8000000 in
set_option maxRecDepth 100000 in
theorem codegen_mentioned.calls (k : Nat) (a0_0 : ByteArray) (a0_1 : Int) (A0_2 : Option Addr) (c0_2 : Nat) (l0_2 : List (S44)) (A0_3 : Option Addr) (c0_3 : Nat) (l0_3 : List (S49)) (r : List (S44)) (w : World) (hr0_2 : Kd.C k44 w A0_2 l0_2.length l0_2) (hc0_2 : l0_2.length ≤ c0_2) (hr0_3 : Kd.C k49 w A0_3 l0_3.length l0_3) (hc0_3 : l0_3.length ≤ c0_3) (h : codegen_mentioned.f k a0_0 a0_1 l0_2 l0_3 = some r) :
    Calls Try.prog 27 #[.agg #[.string a0_0, .int .i64 a0_1, .slice A0_2 l0_2.length c0_2, .slice A0_3 l0_3.length c0_3]] w fun e w' => ∃ v0_ : Value, e = .returned (v0_) ∧ Kd.R k44 44 w' w.heap.size (fun _ => True) v0_ r ∧ Below w.heap.size w w' := by
  have hu25 := Try.underlying25
  have hu49 := Try.underlying49
  have hu51 := Try.underlying51
  have hu44 := Try.underlying44
  have HR0_2 := Aside0.mk hr0_2
  have HC0_2 := Aside0.mk hc0_2
  clear hr0_2 hc0_2
  have HR0_3 := Aside0.mk hr0_3
  have HC0_3 := Aside0.mk hc0_3
  clear hr0_3 hc0_3
  have HB := Aside0.mk (Below.refl w.heap.size w)
  have H : (codegen_mentioned.l0 k ([] : List (S44)) l0_3 (l0_3.length : Int) 0) = some r := h
  clear h
  have H' := Aside0.mk H
  clear H
  go_enter Try.func27, Try.ntmps27
  go_wp2_with (first | ((with_reducible refine gate_dst (N := 1) rfl ?_); refine box_event ?hg (N := 1) ?hd (cs := #[.string a0_0, .int .i64 a0_1, .slice A0_2 l0_2.length c0_2, .slice A0_3 l0_3.length c0_3]) (t := 25) ?hr ?_; (case hd => rfl); (case hg => rfl); (case hr => first | (go_simp; done) | (go_simp; rfl)); intro gb113 hg w2 hbox hb; have n0_ := Aside0.mk (below_step (by repeat (first | (with_reducible first | exact HB.out | apply below_alloc | apply pw_below_drewN | apply below_drew1) | exact HB.out)) hb); have n1_ := Aside0.mk (hbox); have n2_ := Aside0.mk ((by rw [hg]; exact (below_size (by repeat (first | (with_reducible first | exact HB.out | apply below_alloc | apply pw_below_drewN | apply below_drew1) | exact HB.out))) : w.heap.size ≤ gb113)); have n3_ := Aside0.mk ((by rw [hg]; exact (below_size (by repeat (first | (with_reducible first | exact HB.out | apply below_alloc | apply pw_below_drewN | apply below_drew1) | exact HB.out))) : w.heap.size ≤ gb113)); clear HB; have HB := n0_; have BK113 := n1_; have GW113 := n2_; have GE113 := n3_; clear n0_ n1_ n2_ n3_; clear hb hbox hg; have hcz3_0 : w2.cell? ⟨gb113, 0, none⟩ = some (.string a0_0) := (blk_cell BK113.out 0).trans rfl; have hcz3_1 : w2.cell? ⟨gb113, 1, none⟩ = some (.int .i64 a0_1) := (blk_cell BK113.out 1).trans rfl; have hcz3_2 : w2.cell? ⟨gb113, 2, none⟩ = some (.slice A0_2 l0_2.length c0_2) := (blk_cell BK113.out 2).trans rfl; have hcz3_3 : w2.cell? ⟨gb113, 3, none⟩ = some (.slice A0_3 l0_3.length c0_3) := (blk_cell BK113.out 3).trans rfl; have hfz3_0 := blk_frozen BK113.out 0; have hfz3_1 := blk_frozen BK113.out 1; have hfz3_2 := blk_frozen BK113.out 2; have hfz3_3 := blk_frozen BK113.out 3))
  go_loopg [3, 12] k (fun kq v3 v12 w' => ∃ (x3_1 : List (S44)) (x12_1 : Int), v12 = .int .i64 x12_1 ∧ Aside0 (codegen_mentioned.l0 kq x3_1 l0_3 (l0_3.length : Int) x12_1 = some r) ∧ Aside0 (kq ≤ k) ∧ Aside0 (Kd.R k44 44 w' w.heap.size (fun _ => True) v3 x3_1) ∧ Aside0 (w'.heap[gb113]? = some (.cells #[.string a0_0, .int .i64 a0_1, (.slice A0_2 l0_2.length c0_2), (.slice A0_3 l0_3.length c0_3)] 25 (0, 0))) ∧ Aside0 (Below w.heap.size w w'))
  case atStart => exact ⟨(([] : List (S44))), (0), (by first | rfl | (simp; done) | (simp [*]; done)), H', ⟨Nat.le_refl _⟩, ⟨by first | exact Kd.R_nil _ _ _ _ _ | exact Kd.N_nil _ _ _ _ _ | exact Kd.V_nil _ _ _ _ _ | exact Kd.Q_nil _ _ _ _ _ | exact Kd.S_nil _ _ _ _ _⟩, ⟨by (with_reducible repeat (first | refine blk_drewN ?_ _ | refine blk_drew ?_ | refine blk_alloc ?_ _)); exact BK113.out⟩, ⟨by repeat (first | (with_reducible first | exact HB.out | apply below_alloc | apply pw_below_drewN | apply below_drew1 | refine below_set ?_ GE113.out) | exact HB.out)⟩⟩
  case round =>
    clear H'
    try clear c2
    try clear p2
    try clear hcz3_0
    try clear hcz3_1
    try clear hcz3_2
    try clear hcz3_3
    try clear hfz3_0
    try clear hfz3_1
    try clear hfz3_2
    try clear hfz3_3
    obtain ⟨x3_1, x12_1, rfl, HA, HK1, HO_3, BK113, HB⟩ := hrel
    cases gk with
    | zero => exact absurd HA.out (by simp [codegen_mentioned.l0])
    | succ k1 =>
      have H := HA.out
      clear HA
      simp only [codegen_mentioned.l0] at H
      by_cases c4 : x12_1 < (l0_3.length : Int)
      · rw [if_pos c4] at H
        have c4b0 : decide (x12_1 < (l0_3.length : Int)) = true := decide_eq_true c4
        clear c4
        by_cases c5 : 0 ≤ x12_1
        · rw [if_pos c5] at H
          have c5b0 : decide (0 ≤ x12_1) = true := decide_eq_true c5
          clear c5
          by_cases c6 : x12_1 < (l0_3.length : Int)
          · rw [if_pos c6] at H
            have c6b0 : decide (x12_1 < (l0_3.length : Int)) = true := decide_eq_true c6
            clear c6
            have H' := Aside0.mk H
            clear H
            have p114 : 0 ≤ (x12_1 : Int) := of_decide_eq_true (by first | (with_reducible assumption) | assumption)
            have q114 : x12_1 < (l0_3.length : Int) := of_decide_eq_true (by first | (with_reducible assumption) | assumption)
            obtain ⟨ad114, A114_0, c114_0, e114, hx114_0, hx114_1, hx114_2, hx114_3, hx114_4, hl114_0, hi114_0⟩ := at_T49 HR0_3.out x12_1 p114 q114
            cases e114
            replace hx114_0 := (HB.out.cell (World.block_lt_of_cell? w _ hx114_0)).trans hx114_0
            replace hx114_1 := (HB.out.cell (World.block_lt_of_cell? w _ hx114_1)).trans hx114_1
            replace hx114_2 := (HB.out.cell (World.block_lt_of_cell? w _ hx114_2)).trans hx114_2
            replace hx114_3 := (HB.out.cell (World.block_lt_of_cell? w _ hx114_3)).trans hx114_3
            replace hx114_4 := (HB.out.cell (World.block_lt_of_cell? w _ hx114_4)).trans hx114_4
            have HR114_0 := Aside0.mk hi114_0
            have HC114_0 := Aside0.mk hl114_0
            clear hi114_0 hl114_0
            replace p114 := eq_true p114
            replace q114 := eq_true q114
            go_wp2_with (first | ((with_reducible refine gate_dst (N := 5) rfl ?_); refine box_event ?hg (N := 5) ?hd (cs := #[.slice none 0 0, .int .u8 0, .int .i64 0, .int .i64 0, .int .i64 0]) (t := 49) ?hr ?_; (case hd => rfl); (case hg => rfl); (case hr => first | (go_simp; done) | (go_simp; rfl)); intro gb115 hg w7 hbox hb; have n0_ := Aside0.mk (Kd.R_below (by (with_reducible repeat (first | apply Kd.R_alloc | apply Kd.R_drewN | apply Kd.R_drew)); exact HO_3.out) hb); have n1_ := Aside0.mk (blk_below (g := gb113) (o := .cells #[.string a0_0, .int .i64 a0_1, .slice A0_2 l0_2.length c0_2, .slice (some ad114) l0_3.length c0_3] 25 (0, 0)) (by (with_reducible repeat (first | refine blk_drewN ?_ _ | refine blk_drew ?_ | refine blk_alloc ?_ _)); exact BK113.out) hb); have n2_ := Aside0.mk (below_step (by repeat (first | (with_reducible first | exact HB.out | apply below_alloc | apply pw_below_drewN | apply below_drew1 | refine below_set ?_ GE113.out) | exact HB.out)) hb); have n3_ := Aside0.mk (hbox); have n4_ := Aside0.mk ((by rw [hg]; exact (below_size (by repeat (first | (with_reducible first | exact HB.out | apply below_alloc | apply pw_below_drewN | apply below_drew1 | refine below_set ?_ GE113.out) | exact HB.out))) : w.heap.size ≤ gb115)); have n5_ := Aside0.mk ((by rw [hg]; exact (below_size (by repeat (first | (with_reducible first | exact HB.out | apply below_alloc | apply pw_below_drewN | apply below_drew1 | refine below_set ?_ GE113.out) | exact HB.out))) : w.heap.size ≤ gb115)); have n6_ := Aside0.mk ((by rw [hg]; exact Nat.ne_of_lt (blk_lt (g := gb113) (o := .cells #[.string a0_0, .int .i64 a0_1, .slice A0_2 l0_2.length c0_2, .slice (some ad114) l0_3.length c0_3] 25 (0, 0)) (by (with_reducible repeat (first | refine blk_drewN ?_ _ | refine blk_drew ?_ | refine blk_alloc ?_ _)); exact BK113.out)) : gb113 ≠ gb115)); have n7_ := Aside0.mk ((by rw [hg]; exact Nat.ne_of_gt (blk_lt (g := gb113) (o := .cells #[.string a0_0, .int .i64 a0_1, .slice A0_2 l0_2.length c0_2, .slice (some ad114) l0_3.length c0_3] 25 (0, 0)) (by (with_reducible repeat (first | refine blk_drewN ?_ _ | refine blk_drew ?_ | refine blk_alloc ?_ _)); exact BK113.out)) : gb115 ≠ gb113)); clear HO_3; clear BK113; clear HB; have HO_3 := n0_; have BK113 := n1_; have HB := n2_; have BK115 := n3_; have GW115 := n4_; have GE115 := n5_; have NB113_115 := n6_; have NB115_113 := n7_; clear n0_ n1_ n2_ n3_ n4_ n5_ n6_ n7_; clear hb hbox hg; have hnb8 := NB115_113.out; have hnc8 := NB113_115.out; have hcz9_0 : w7.cell? ⟨gb115, 0, none⟩ = some (.slice none 0 0) := (blk_cell BK115.out 0).trans rfl; have hcz9_1 : w7.cell? ⟨gb115, 1, none⟩ = some (.int .u8 0) := (blk_cell BK115.out 1).trans rfl; have hcz9_2 : w7.cell? ⟨gb115, 2, none⟩ = some (.int .i64 0) := (blk_cell BK115.out 2).trans rfl; have hcz9_3 : w7.cell? ⟨gb115, 3, none⟩ = some (.int .i64 0) := (blk_cell BK115.out 3).trans rfl; have hcz9_4 : w7.cell? ⟨gb115, 4, none⟩ = some (.int .i64 0) := (blk_cell BK115.out 4).trans rfl; have hfz9_0 := blk_frozen BK115.out 0; have hfz9_1 := blk_frozen BK115.out 1; have hfz9_2 := blk_frozen BK115.out 2; have hfz9_3 := blk_frozen BK115.out 3; have hfz9_4 := blk_frozen BK115.out 4))
            go_loopg [3, 19] k1 (fun kq v3 v19 w' => ∃ (x3_2 : List (S44)) (x19_2 : Int), v19 = .int .i64 x19_2 ∧ Aside0 (codegen_mentioned.l1 kq x3_2 l0_3 (l0_3.length : Int) x12_1 ((rd_T49 l0_3 x12_1).f0) (((rd_T49 l0_3 x12_1).f0).length : Int) x19_2 = some r) ∧ Aside0 (kq ≤ k1) ∧ Aside0 (Kd.R k44 44 w' w.heap.size (fun _ => True) v3 x3_2) ∧ Aside0 (w'.heap[gb113]? = some (.cells #[.string a0_0, .int .i64 a0_1, (.slice A0_2 l0_2.length c0_2), (.slice (some ad114) l0_3.length c0_3)] 25 (0, 0))) ∧ Aside0 (w'.heap[gb115]? = some (.cells #[(.slice A114_0 ((rd_T49 l0_3 x12_1).f0).length c114_0), .int .u8 ((rd_T49 l0_3 x12_1).f1), .int .i64 ((rd_T49 l0_3 x12_1).f2), .int .i64 ((rd_T49 l0_3 x12_1).f3), .int .i64 ((rd_T49 l0_3 x12_1).f4)] 49 (0, 0))) ∧ Aside0 (Below w.heap.size w w'))
            case atStart => exact ⟨(x3_1), (0), (by first | rfl | (simp; done) | (simp [*]; done)), H', ⟨Nat.le_refl _⟩, ⟨by (with_reducible repeat (first | apply Kd.R_alloc | apply Kd.R_drewN | apply Kd.R_drew)); exact Kd.R_mono (Kd.R_far (p := ⟨gb115, 4, none⟩) (Kd.R_far (p := ⟨gb115, 3, none⟩) (Kd.R_far (p := ⟨gb115, 2, none⟩) (Kd.R_far (p := ⟨gb115, 1, none⟩) (Kd.R_far (p := ⟨gb115, 0, none⟩) (Kd.R_types HO_3.out BK115.out (by decide)) (fun _ hk => hk.2) (.slice A114_0 ((rd_T49 l0_3 x12_1).f0).length c114_0)) (fun _ hk => hk.2) (.int .u8 ((rd_T49 l0_3 x12_1).f1))) (fun _ hk => hk.2) (.int .i64 ((rd_T49 l0_3 x12_1).f2))) (fun _ hk => hk.2) (.int .i64 ((rd_T49 l0_3 x12_1).f3))) (fun _ hk => hk.2) (.int .i64 ((rd_T49 l0_3 x12_1).f4))) (fun _ hk => trivial)⟩, ⟨by (with_reducible repeat (first | refine blk_drewN ?_ _ | refine blk_drew ?_ | refine blk_alloc ?_ _)); refine blk_far ?_ NB113_115.out _; (with_reducible repeat (first | refine blk_drewN ?_ _ | refine blk_drew ?_ | refine blk_alloc ?_ _)); refine blk_far ?_ NB113_115.out _; (with_reducible repeat (first | refine blk_drewN ?_ _ | refine blk_drew ?_ | refine blk_alloc ?_ _)); refine blk_far ?_ NB113_115.out _; (with_reducible repeat (first | refine blk_drewN ?_ _ | refine blk_drew ?_ | refine blk_alloc ?_ _)); refine blk_far ?_ NB113_115.out _; (with_reducible repeat (first | refine blk_drewN ?_ _ | refine blk_drew ?_ | refine blk_alloc ?_ _)); refine blk_far ?_ NB113_115.out _; (with_reducible repeat (first | refine blk_drewN ?_ _ | refine blk_drew ?_ | refine blk_alloc ?_ _)); exact BK113.out⟩, ⟨by (with_reducible repeat (first | refine blk_drewN ?_ _ | refine blk_drew ?_ | refine blk_alloc ?_ _)); refine blk_put (cs := #[.slice A114_0 ((rd_T49 l0_3 x12_1).f0).length c114_0, .int .u8 ((rd_T49 l0_3 x12_1).f1), .int .i64 ((rd_T49 l0_3 x12_1).f2), .int .i64 ((rd_T49 l0_3 x12_1).f3), .int .i64 0]) ?_ 4 _ rfl; (with_reducible repeat (first | refine blk_drewN ?_ _ | refine blk_drew ?_ | refine blk_alloc ?_ _)); refine blk_put (cs := #[.slice A114_0 ((rd_T49 l0_3 x12_1).f0).length c114_0, .int .u8 ((rd_T49 l0_3 x12_1).f1), .int .i64 ((rd_T49 l0_3 x12_1).f2), .int .i64 0, .int .i64 0]) ?_ 3 _ rfl; (with_reducible repeat (first | refine blk_drewN ?_ _ | refine blk_drew ?_ | refine blk_alloc ?_ _)); refine blk_put (cs := #[.slice A114_0 ((rd_T49 l0_3 x12_1).f0).length c114_0, .int .u8 ((rd_T49 l0_3 x12_1).f1), .int .i64 0, .int .i64 0, .int .i64 0]) ?_ 2 _ rfl; (with_reducible repeat (first | refine blk_drewN ?_ _ | refine blk_drew ?_ | refine blk_alloc ?_ _)); refine blk_put (cs := #[.slice A114_0 ((rd_T49 l0_3 x12_1).f0).length c114_0, .int .u8 0, .int .i64 0, .int .i64 0, .int .i64 0]) ?_ 1 _ rfl; (with_reducible repeat (first | refine blk_drewN ?_ _ | refine blk_drew ?_ | refine blk_alloc ?_ _)); refine blk_put (cs := #[.slice none 0 0, .int .u8 0, .int .i64 0, .int .i64 0, .int .i64 0]) ?_ 0 _ rfl; (with_reducible repeat (first | refine blk_drewN ?_ _ | refine blk_drew ?_ | refine blk_alloc ?_ _)); exact BK115.out⟩, ⟨by repeat (first | (with_reducible first | exact HB.out | apply below_alloc | apply pw_below_drewN | apply below_drew1 | refine below_set ?_ GE113.out | refine below_set ?_ GE115.out) | exact HB.out)⟩⟩
            case round =>
              clear H'
              try clear c1
              try clear p1
              try clear q1
              try clear hx1
              try clear c2
              try clear p2
              try clear c4
              try clear c4b0
              try clear c5
              try clear c5b0
              try clear c6
              try clear c6b0
              try clear c8
              try clear hcz3_0
              try clear hcz3_1
              try clear hcz3_2
              try clear hcz3_3
              try clear hcz9_0
              try clear hcz9_1
              try clear hcz9_2
              try clear hcz9_3
              try clear hcz9_4
              try clear hfz3_0
              try clear hfz3_1
              try clear hfz3_2
              try clear hfz3_3
              try clear hfz9_0
              try clear hfz9_1
              try clear hfz9_2
              try clear hfz9_3
              try clear hfz9_4
              try clear hx114_0
              try clear hx114_1
              try clear hx114_2
              try clear hx114_3
              try clear hx114_4
              try clear p114
              try clear p2
              try clear q114
              obtain ⟨x3_2, x19_2, rfl, HA, HK2, HO_3, BK113, BK115, HB⟩ := hrel
              cases gk with
              | zero => exact absurd HA.out (by simp [codegen_mentioned.l1])
              | succ k2 =>
                have H := HA.out
                clear HA
                simp only [codegen_mentioned.l1] at H
                by_cases c10 : x19_2 < (((rd_T49 l0_3 x12_1).f0).length : Int)
                · rw [if_pos c10] at H
                  have c10b0 : decide (x19_2 < (((rd_T49 l0_3 x12_1).f0).length : Int)) = true := decide_eq_true c10
                  clear c10
                  by_cases c11 : 0 ≤ x19_2
                  · rw [if_pos c11] at H
                    have c11b0 : decide (0 ≤ x19_2) = true := decide_eq_true c11
                    clear c11
                    by_cases c12 : x19_2 < (((rd_T49 l0_3 x12_1).f0).length : Int)
                    · rw [if_pos c12] at H
                      have c12b0 : decide (x19_2 < (((rd_T49 l0_3 x12_1).f0).length : Int)) = true := decide_eq_true c12
                      clear c12
                      have HC13 := Aside0.mk H
                      clear H
                      have p116 : 0 ≤ (x19_2 : Int) := of_decide_eq_true (by first | (with_reducible assumption) | assumption)
                      have q116 : x19_2 < (((rd_T49 l0_3 x12_1).f0).length : Int) := of_decide_eq_true (by first | (with_reducible assumption) | assumption)
                      obtain ⟨ad116, e116, hx116_0, hx116_1, hx116_2, hx116_3, hx116_4, hx116_5⟩ := at_T51 HR114_0.out x19_2 p116 q116
                      cases e116
                      replace hx116_0 := (HB.out.cell (World.block_lt_of_cell? w _ hx116_0)).trans hx116_0
                      replace hx116_1 := (HB.out.cell (World.block_lt_of_cell? w _ hx116_1)).trans hx116_1
                      replace hx116_2 := (HB.out.cell (World.block_lt_of_cell? w _ hx116_2)).trans hx116_2
                      replace hx116_3 := (HB.out.cell (World.block_lt_of_cell? w _ hx116_3)).trans hx116_3
                      replace hx116_4 := (HB.out.cell (World.block_lt_of_cell? w _ hx116_4)).trans hx116_4
                      replace hx116_5 := (HB.out.cell (World.block_lt_of_cell? w _ hx116_5)).trans hx116_5
                      replace p116 := eq_true p116
                      replace q116 := eq_true q116
                      go_upto_if 25 with (first | ((with_reducible refine gate_dst (N := 7) rfl ?_); refine box_event ?hg (N := 7) ?hd (cs := #[.int .u8 0, .int .i64 0, .int .i64 0, .int .i64 0, .int .i64 0, .string (⟨#[]⟩ : ByteArray)]) (t := 51) ?hr ?_; (case hd => rfl); (case hg => rfl); (case hr => first | (go_simp; done) | (go_simp; rfl)); intro gb117 hg w14 hbox hb; have n0_ := Aside0.mk (Kd.R_below (by (with_reducible repeat (first | apply Kd.R_alloc | apply Kd.R_drewN | apply Kd.R_drew)); exact HO_3.out) hb); have n1_ := Aside0.mk (blk_below (g := gb113) (o := .cells #[.string a0_0, .int .i64 a0_1, .slice A0_2 l0_2.length c0_2, .slice (some ad114) l0_3.length c0_3] 25 (0, 0)) (by (with_reducible repeat (first | refine blk_drewN ?_ _ | refine blk_drew ?_ | refine blk_alloc ?_ _)); exact BK113.out) hb); have n2_ := Aside0.mk (blk_below (g := gb115) (o := .cells #[.slice (some ad116) ((rd_T49 l0_3 x12_1).f0).length c114_0, .int .u8 ((rd_T49 l0_3 x12_1).f1), .int .i64 ((rd_T49 l0_3 x12_1).f2), .int .i64 ((rd_T49 l0_3 x12_1).f3), .int .i64 ((rd_T49 l0_3 x12_1).f4)] 49 (0, 0)) (by (with_reducible repeat (first | refine blk_drewN ?_ _ | refine blk_drew ?_ | refine blk_alloc ?_ _)); exact BK115.out) hb); have n3_ := Aside0.mk (below_step (by repeat (first | (with_reducible first | exact HB.out | apply below_alloc | apply pw_below_drewN | apply below_drew1 | refine below_set ?_ GE113.out | refine below_set ?_ GE115.out) | exact HB.out)) hb); have n4_ := Aside0.mk (hbox); have n5_ := Aside0.mk ((by rw [hg]; exact (below_size (by repeat (first | (with_reducible first | exact HB.out | apply below_alloc | apply pw_below_drewN | apply below_drew1 | refine below_set ?_ GE113.out | refine below_set ?_ GE115.out) | exact HB.out))) : w.heap.size ≤ gb117)); have n6_ := Aside0.mk ((by rw [hg]; exact (below_size (by repeat (first | (with_reducible first | exact HB.out | apply below_alloc | apply pw_below_drewN | apply below_drew1 | refine below_set ?_ GE113.out | refine below_set ?_ GE115.out) | exact HB.out))) : w.heap.size ≤ gb117)); have n7_ := Aside0.mk ((by rw [hg]; exact Nat.ne_of_lt (blk_lt (g := gb113) (o := .cells #[.string a0_0, .int .i64 a0_1, .slice A0_2 l0_2.length c0_2, .slice (some ad114) l0_3.length c0_3] 25 (0, 0)) (by (with_reducible repeat (first | refine blk_drewN ?_ _ | refine blk_drew ?_ | refine blk_alloc ?_ _)); exact BK113.out)) : gb113 ≠ gb117)); have n8_ := Aside0.mk ((by rw [hg]; exact Nat.ne_of_gt (blk_lt (g := gb113) (o := .cells #[.string a0_0, .int .i64 a0_1, .slice A0_2 l0_2.length c0_2, .slice (some ad114) l0_3.length c0_3] 25 (0, 0)) (by (with_reducible repeat (first | refine blk_drewN ?_ _ | refine blk_drew ?_ | refine blk_alloc ?_ _)); exact BK113.out)) : gb117 ≠ gb113)); have n9_ := Aside0.mk ((by rw [hg]; exact Nat.ne_of_lt (blk_lt (g := gb115) (o := .cells #[.slice (some ad116) ((rd_T49 l0_3 x12_1).f0).length c114_0, .int .u8 ((rd_T49 l0_3 x12_1).f1), .int .i64 ((rd_T49 l0_3 x12_1).f2), .int .i64 ((rd_T49 l0_3 x12_1).f3), .int .i64 ((rd_T49 l0_3 x12_1).f4)] 49 (0, 0)) (by (with_reducible repeat (first | refine blk_drewN ?_ _ | refine blk_drew ?_ | refine blk_alloc ?_ _)); exact BK115.out)) : gb115 ≠ gb117)); have n10_ := Aside0.mk ((by rw [hg]; exact Nat.ne_of_gt (blk_lt (g := gb115) (o := .cells #[.slice (some ad116) ((rd_T49 l0_3 x12_1).f0).length c114_0, .int .u8 ((rd_T49 l0_3 x12_1).f1), .int .i64 ((rd_T49 l0_3 x12_1).f2), .int .i64 ((rd_T49 l0_3 x12_1).f3), .int .i64 ((rd_T49 l0_3 x12_1).f4)] 49 (0, 0)) (by (with_reducible repeat (first | refine blk_drewN ?_ _ | refine blk_drew ?_ | refine blk_alloc ?_ _)); exact BK115.out)) : gb117 ≠ gb115)); clear HO_3; clear BK113; clear BK115; clear HB; have HO_3 := n0_; have BK113 := n1_; have BK115 := n2_; have HB := n3_; have BK117 := n4_; have GW117 := n5_; have GE117 := n6_; have NB113_117 := n7_; have NB117_113 := n8_; have NB115_117 := n9_; have NB117_115 := n10_; clear n0_ n1_ n2_ n3_ n4_ n5_ n6_ n7_ n8_ n9_ n10_; clear hb hbox hg; have hnb15 := NB117_113.out; have hnc15 := NB113_117.out; have hnb16 := NB117_115.out; have hnc16 := NB115_117.out; have hcz17_0 : w14.cell? ⟨gb117, 0, none⟩ = some (.int .u8 0) := (blk_cell BK117.out 0).trans rfl; have hcz17_1 : w14.cell? ⟨gb117, 1, none⟩ = some (.int .i64 0) := (blk_cell BK117.out 1).trans rfl; have hcz17_2 : w14.cell? ⟨gb117, 2, none⟩ = some (.int .i64 0) := (blk_cell BK117.out 2).trans rfl; have hcz17_3 : w14.cell? ⟨gb117, 3, none⟩ = some (.int .i64 0) := (blk_cell BK117.out 3).trans rfl; have hcz17_4 : w14.cell? ⟨gb117, 4, none⟩ = some (.int .i64 0) := (blk_cell BK117.out 4).trans rfl; have hcz17_5 : w14.cell? ⟨gb117, 5, none⟩ = some (.string (⟨#[]⟩ : ByteArray)) := (blk_cell BK117.out 5).trans rfl; have hfz17_0 := blk_frozen BK117.out 0; have hfz17_1 := blk_frozen BK117.out 1; have hfz17_2 := blk_frozen BK117.out 2; have hfz17_3 := blk_frozen BK117.out 3; have hfz17_4 := blk_frozen BK117.out 4; have hfz17_5 := blk_frozen BK117.out 5))
                      (try simp only [Act.put, List.setIfInBounds_toArray, List.set_cons_zero, List.set_cons_succ])
                      go_cut [25] (fun v25 wc => ∃ (kq : Nat) (x25_12 : Bool), v25 = .bool x25_12 ∧ Aside0 (codegen_mentioned.j2 kq x3_2 l0_3 (l0_3.length : Int) x12_1 ((rd_T49 l0_3 x12_1).f0) (((rd_T49 l0_3 x12_1).f0).length : Int) x19_2 x25_12 ((rd_T51 ((rd_T49 l0_3 x12_1).f0) x19_2).f0) ((rd_T51 ((rd_T49 l0_3 x12_1).f0) x19_2).f1) ((rd_T51 ((rd_T49 l0_3 x12_1).f0) x19_2).f2) ((rd_T51 ((rd_T49 l0_3 x12_1).f0) x19_2).f3) ((rd_T51 ((rd_T49 l0_3 x12_1).f0) x19_2).f4) ((rd_T51 ((rd_T49 l0_3 x12_1).f0) x19_2).f5) = some r) ∧ Aside0 (kq ≤ k2) ∧ Aside0 (Kd.R k44 44 wc w.heap.size (fun _ => True) u3 x3_2) ∧ Aside0 (wc.heap[gb113]? = some (.cells #[.string a0_0, .int .i64 a0_1, (.slice A0_2 l0_2.length c0_2), (.slice (some ad114) l0_3.length c0_3)] 25 (0, 0))) ∧ Aside0 (wc.heap[gb115]? = some (.cells #[(.slice (some ad116) ((rd_T49 l0_3 x12_1).f0).length c114_0), .int .u8 ((rd_T49 l0_3 x12_1).f1), .int .i64 ((rd_T49 l0_3 x12_1).f2), .int .i64 ((rd_T49 l0_3 x12_1).f3), .int .i64 ((rd_T49 l0_3 x12_1).f4)] 49 (0, 0))) ∧ Aside0 (wc.heap[gb117]? = some (.cells #[.int .u8 ((rd_T51 ((rd_T49 l0_3 x12_1).f0) x19_2).f0), .int .i64 ((rd_T51 ((rd_T49 l0_3 x12_1).f0) x19_2).f1), .int .i64 ((rd_T51 ((rd_T49 l0_3 x12_1).f0) x19_2).f2), .int .i64 ((rd_T51 ((rd_T49 l0_3 x12_1).f0) x19_2).f3), .int .i64 ((rd_T51 ((rd_T49 l0_3 x12_1).f0) x19_2).f4), .string ((rd_T51 ((rd_T49 l0_3 x12_1).f0) x19_2).f5)] 51 (0, 0))) ∧ Aside0 (Below w.heap.size w wc))
                      case first =>
                        have H := HC13.out
                        clear HC13
                        by_cases c18 : ((rd_T51 ((rd_T49 l0_3 x12_1).f0) x19_2).f0) = 6
                        · rw [if_pos c18] at H
                          have c18b0 : (((rd_T51 ((rd_T49 l0_3 x12_1).f0) x19_2).f0) == 6) = true := beq_iff_eq.mpr c18
                          have c18b1 : (((rd_T51 ((rd_T49 l0_3 x12_1).f0) x19_2).f0) != 6) = false := bne_eq_false_iff_eq.mpr c18
                          clear c18
                          (first | rw [c18b0] | (simp only [i64_w, i32_w]; rw [c18b0]) | skip)
                          have H' := Aside0.mk H
                          clear H
                          go_wp2
                          go_meet
                          case rel => exact ⟨_, ((((rd_T51 ((rd_T49 l0_3 x12_1).f0) x19_2).f0) == 6)), (by first | rfl | (simp; done) | (simp [*]; done)), H', ⟨by have := HK1.out; have := HK2.out; first | omega | exact Nat.le_refl _⟩, ⟨by (with_reducible repeat (first | apply Kd.R_alloc | apply Kd.R_drewN | apply Kd.R_drew)); exact Kd.R_mono (Kd.R_far (p := ⟨gb117, 5, none⟩) (Kd.R_far (p := ⟨gb117, 4, none⟩) (Kd.R_far (p := ⟨gb117, 3, none⟩) (Kd.R_far (p := ⟨gb117, 2, none⟩) (Kd.R_far (p := ⟨gb117, 1, none⟩) (Kd.R_far (p := ⟨gb117, 0, none⟩) (Kd.R_types HO_3.out BK117.out (by decide)) (fun _ hk => hk.2) (.int .u8 ((rd_T51 ((rd_T49 l0_3 x12_1).f0) x19_2).f0))) (fun _ hk => hk.2) (.int .i64 ((rd_T51 ((rd_T49 l0_3 x12_1).f0) x19_2).f1))) (fun _ hk => hk.2) (.int .i64 ((rd_T51 ((rd_T49 l0_3 x12_1).f0) x19_2).f2))) (fun _ hk => hk.2) (.int .i64 ((rd_T51 ((rd_T49 l0_3 x12_1).f0) x19_2).f3))) (fun _ hk => hk.2) (.int .i64 ((rd_T51 ((rd_T49 l0_3 x12_1).f0) x19_2).f4))) (fun _ hk => hk.2) (.string ((rd_T51 ((rd_T49 l0_3 x12_1).f0) x19_2).f5))) (fun _ hk => trivial)⟩, ⟨by (with_reducible repeat (first | refine blk_drewN ?_ _ | refine blk_drew ?_ | refine blk_alloc ?_ _)); refine blk_far ?_ NB113_117.out _; (with_reducible repeat (first | refine blk_drewN ?_ _ | refine blk_drew ?_ | refine blk_alloc ?_ _)); refine blk_far ?_ NB113_117.out _; (with_reducible repeat (first | refine blk_drewN ?_ _ | refine blk_drew ?_ | refine blk_alloc ?_ _)); refine blk_far ?_ NB113_117.out _; (with_reducible repeat (first | refine blk_drewN ?_ _ | refine blk_drew ?_ | refine blk_alloc ?_ _)); refine blk_far ?_ NB113_117.out _; (with_reducible repeat (first | refine blk_drewN ?_ _ | refine blk_drew ?_ | refine blk_alloc ?_ _)); refine blk_far ?_ NB113_117.out _; (with_reducible repeat (first | refine blk_drewN ?_ _ | refine blk_drew ?_ | refine blk_alloc ?_ _)); refine blk_far ?_ NB113_117.out _; (with_reducible repeat (first | refine blk_drewN ?_ _ | refine blk_drew ?_ | refine blk_alloc ?_ _)); exact BK113.out⟩, ⟨by (with_reducible repeat (first | refine blk_drewN ?_ _ | refine blk_drew ?_ | refine blk_alloc ?_ _)); refine blk_far ?_ NB115_117.out _; (with_reducible repeat (first | refine blk_drewN ?_ _ | refine blk_drew ?_ | refine blk_alloc ?_ _)); refine blk_far ?_ NB115_117.out _; (with_reducible repeat (first | refine blk_drewN ?_ _ | refine blk_drew ?_ | refine blk_alloc ?_ _)); refine blk_far ?_ NB115_117.out _; (with_reducible repeat (first | refine blk_drewN ?_ _ | refine blk_drew ?_ | refine blk_alloc ?_ _)); refine blk_far ?_ NB115_117.out _; (with_reducible repeat (first | refine blk_drewN ?_ _ | refine blk_drew ?_ | refine blk_alloc ?_ _)); refine blk_far ?_ NB115_117.out _; (with_reducible repeat (first | refine blk_drewN ?_ _ | refine blk_drew ?_ | refine blk_alloc ?_ _)); refine blk_far ?_ NB115_117.out _; (with_reducible repeat (first | refine blk_drewN ?_ _ | refine blk_drew ?_ | refine blk_alloc ?_ _)); exact BK115.out⟩, ⟨by (with_reducible repeat (first | refine blk_drewN ?_ _ | refine blk_drew ?_ | refine blk_alloc ?_ _)); refine blk_put (cs := #[.int .u8 ((rd_T51 ((rd_T49 l0_3 x12_1).f0) x19_2).f0), .int .i64 ((rd_T51 ((rd_T49 l0_3 x12_1).f0) x19_2).f1), .int .i64 ((rd_T51 ((rd_T49 l0_3 x12_1).f0) x19_2).f2), .int .i64 ((rd_T51 ((rd_T49 l0_3 x12_1).f0) x19_2).f3), .int .i64 ((rd_T51 ((rd_T49 l0_3 x12_1).f0) x19_2).f4), .string (⟨#[]⟩ : ByteArray)]) ?_ 5 _ rfl; (with_reducible repeat (first | refine blk_drewN ?_ _ | refine blk_drew ?_ | refine blk_alloc ?_ _)); refine blk_put (cs := #[.int .u8 ((rd_T51 ((rd_T49 l0_3 x12_1).f0) x19_2).f0), .int .i64 ((rd_T51 ((rd_T49 l0_3 x12_1).f0) x19_2).f1), .int .i64 ((rd_T51 ((rd_T49 l0_3 x12_1).f0) x19_2).f2), .int .i64 ((rd_T51 ((rd_T49 l0_3 x12_1).f0) x19_2).f3), .int .i64 0, .string (⟨#[]⟩ : ByteArray)]) ?_ 4 _ rfl; (with_reducible repeat (first | refine blk_drewN ?_ _ | refine blk_drew ?_ | refine blk_alloc ?_ _)); refine blk_put (cs := #[.int .u8 ((rd_T51 ((rd_T49 l0_3 x12_1).f0) x19_2).f0), .int .i64 ((rd_T51 ((rd_T49 l0_3 x12_1).f0) x19_2).f1), .int .i64 ((rd_T51 ((rd_T49 l0_3 x12_1).f0) x19_2).f2), .int .i64 0, .int .i64 0, .string (⟨#[]⟩ : ByteArray)]) ?_ 3 _ rfl; (with_reducible repeat (first | refine blk_drewN ?_ _ | refine blk_drew ?_ | refine blk_alloc ?_ _)); refine blk_put (cs := #[.int .u8 ((rd_T51 ((rd_T49 l0_3 x12_1).f0) x19_2).f0), .int .i64 ((rd_T51 ((rd_T49 l0_3 x12_1).f0) x19_2).f1), .int .i64 0, .int .i64 0, .int .i64 0, .string (⟨#[]⟩ : ByteArray)]) ?_ 2 _ rfl; (with_reducible repeat (first | refine blk_drewN ?_ _ | refine blk_drew ?_ | refine blk_alloc ?_ _)); refine blk_put (cs := #[.int .u8 ((rd_T51 ((rd_T49 l0_3 x12_1).f0) x19_2).f0), .int .i64 0, .int .i64 0, .int .i64 0, .int .i64 0, .string (⟨#[]⟩ : ByteArray)]) ?_ 1 _ rfl; (with_reducible repeat (first | refine blk_drewN ?_ _ | refine blk_drew ?_ | refine blk_alloc ?_ _)); refine blk_put (cs := #[.int .u8 0, .int .i64 0, .int .i64 0, .int .i64 0, .int .i64 0, .string (⟨#[]⟩ : ByteArray)]) ?_ 0 _ rfl; (with_reducible repeat (first | refine blk_drewN ?_ _ | refine blk_drew ?_ | refine blk_alloc ?_ _)); exact BK117.out⟩, ⟨by repeat (first | (with_reducible first | exact HB.out | apply below_alloc | apply pw_below_drewN | apply below_drew1 | refine below_set ?_ GE113.out | refine below_set ?_ GE115.out | refine below_set ?_ GE117.out) | exact HB.out)⟩⟩
                        · rw [if_neg c18] at H
                          have c18b0 : (((rd_T51 ((rd_T49 l0_3 x12_1).f0) x19_2).f0) == 6) = false := beq_eq_false_iff_ne.mpr c18
                          have c18b1 : (((rd_T51 ((rd_T49 l0_3 x12_1).f0) x19_2).f0) != 6) = true := bne_iff_ne.mpr c18
                          (first | rw [c18b0] | (simp only [i64_w, i32_w]; rw [c18b0]) | skip)
                          by_cases c19 : ((rd_T51 ((rd_T49 l0_3 x12_1).f0) x19_2).f0) = 7
                          · rw [if_pos c19] at H
                            have c19b0 : (((rd_T51 ((rd_T49 l0_3 x12_1).f0) x19_2).f0) == 7) = true := beq_iff_eq.mpr c19
                            have c19b1 : (((rd_T51 ((rd_T49 l0_3 x12_1).f0) x19_2).f0) != 7) = false := bne_eq_false_iff_eq.mpr c19
                            clear c19
                            have H' := Aside0.mk H
                            clear H
                            go_wp2
                            go_meet
                            case rel => exact ⟨_, ((((rd_T51 ((rd_T49 l0_3 x12_1).f0) x19_2).f0) == 7)), (by first | rfl | (simp; done) | (simp [*]; done)), H', ⟨by have := HK1.out; have := HK2.out; first | omega | exact Nat.le_refl _⟩, ⟨by (with_reducible repeat (first | apply Kd.R_alloc | apply Kd.R_drewN | apply Kd.R_drew)); exact Kd.R_mono (Kd.R_far (p := ⟨gb117, 5, none⟩) (Kd.R_far (p := ⟨gb117, 4, none⟩) (Kd.R_far (p := ⟨gb117, 3, none⟩) (Kd.R_far (p := ⟨gb117, 2, none⟩) (Kd.R_far (p := ⟨gb117, 1, none⟩) (Kd.R_far (p := ⟨gb117, 0, none⟩) (Kd.R_types HO_3.out BK117.out (by decide)) (fun _ hk => hk.2) (.int .u8 ((rd_T51 ((rd_T49 l0_3 x12_1).f0) x19_2).f0))) (fun _ hk => hk.2) (.int .i64 ((rd_T51 ((rd_T49 l0_3 x12_1).f0) x19_2).f1))) (fun _ hk => hk.2) (.int .i64 ((rd_T51 ((rd_T49 l0_3 x12_1).f0) x19_2).f2))) (fun _ hk => hk.2) (.int .i64 ((rd_T51 ((rd_T49 l0_3 x12_1).f0) x19_2).f3))) (fun _ hk => hk.2) (.int .i64 ((rd_T51 ((rd_T49 l0_3 x12_1).f0) x19_2).f4))) (fun _ hk => hk.2) (.string ((rd_T51 ((rd_T49 l0_3 x12_1).f0) x19_2).f5))) (fun _ hk => trivial)⟩, ⟨by (with_reducible repeat (first | refine blk_drewN ?_ _ | refine blk_drew ?_ | refine blk_alloc ?_ _)); refine blk_far ?_ NB113_117.out _; (with_reducible repeat (first | refine blk_drewN ?_ _ | refine blk_drew ?_ | refine blk_alloc ?_ _)); refine blk_far ?_ NB113_117.out _; (with_reducible repeat (first | refine blk_drewN ?_ _ | refine blk_drew ?_ | refine blk_alloc ?_ _)); refine blk_far ?_ NB113_117.out _; (with_reducible repeat (first | refine blk_drewN ?_ _ | refine blk_drew ?_ | refine blk_alloc ?_ _)); refine blk_far ?_ NB113_117.out _; (with_reducible repeat (first | refine blk_drewN ?_ _ | refine blk_drew ?_ | refine blk_alloc ?_ _)); refine blk_far ?_ NB113_117.out _; (with_reducible repeat (first | refine blk_drewN ?_ _ | refine blk_drew ?_ | refine blk_alloc ?_ _)); refine blk_far ?_ NB113_117.out _; (with_reducible repeat (first | refine blk_drewN ?_ _ | refine blk_drew ?_ | refine blk_alloc ?_ _)); exact BK113.out⟩, ⟨by (with_reducible repeat (first | refine blk_drewN ?_ _ | refine blk_drew ?_ | refine blk_alloc ?_ _)); refine blk_far ?_ NB115_117.out _; (with_reducible repeat (first | refine blk_drewN ?_ _ | refine blk_drew ?_ | refine blk_alloc ?_ _)); refine blk_far ?_ NB115_117.out _; (with_reducible repeat (first | refine blk_drewN ?_ _ | refine blk_drew ?_ | refine blk_alloc ?_ _)); refine blk_far ?_ NB115_117.out _; (with_reducible repeat (first | refine blk_drewN ?_ _ | refine blk_drew ?_ | refine blk_alloc ?_ _)); refine blk_far ?_ NB115_117.out _; (with_reducible repeat (first | refine blk_drewN ?_ _ | refine blk_drew ?_ | refine blk_alloc ?_ _)); refine blk_far ?_ NB115_117.out _; (with_reducible repeat (first | refine blk_drewN ?_ _ | refine blk_drew ?_ | refine blk_alloc ?_ _)); refine blk_far ?_ NB115_117.out _; (with_reducible repeat (first | refine blk_drewN ?_ _ | refine blk_drew ?_ | refine blk_alloc ?_ _)); exact BK115.out⟩, ⟨by (with_reducible repeat (first | refine blk_drewN ?_ _ | refine blk_drew ?_ | refine blk_alloc ?_ _)); refine blk_put (cs := #[.int .u8 ((rd_T51 ((rd_T49 l0_3 x12_1).f0) x19_2).f0), .int .i64 ((rd_T51 ((rd_T49 l0_3 x12_1).f0) x19_2).f1), .int .i64 ((rd_T51 ((rd_T49 l0_3 x12_1).f0) x19_2).f2), .int .i64 ((rd_T51 ((rd_T49 l0_3 x12_1).f0) x19_2).f3), .int .i64 ((rd_T51 ((rd_T49 l0_3 x12_1).f0) x19_2).f4), .string (⟨#[]⟩ : ByteArray)]) ?_ 5 _ rfl; (with_reducible repeat (first | refine blk_drewN ?_ _ | refine blk_drew ?_ | refine blk_alloc ?_ _)); refine blk_put (cs := #[.int .u8 ((rd_T51 ((rd_T49 l0_3 x12_1).f0) x19_2).f0), .int .i64 ((rd_T51 ((rd_T49 l0_3 x12_1).f0) x19_2).f1), .int .i64 ((rd_T51 ((rd_T49 l0_3 x12_1).f0) x19_2).f2), .int .i64 ((rd_T51 ((rd_T49 l0_3 x12_1).f0) x19_2).f3), .int .i64 0, .string (⟨#[]⟩ : ByteArray)]) ?_ 4 _ rfl; (with_reducible repeat (first | refine blk_drewN ?_ _ | refine blk_drew ?_ | refine blk_alloc ?_ _)); refine blk_put (cs := #[.int .u8 ((rd_T51 ((rd_T49 l0_3 x12_1).f0) x19_2).f0), .int .i64 ((rd_T51 ((rd_T49 l0_3 x12_1).f0) x19_2).f1), .int .i64 ((rd_T51 ((rd_T49 l0_3 x12_1).f0) x19_2).f2), .int .i64 0, .int .i64 0, .string (⟨#[]⟩ : ByteArray)]) ?_ 3 _ rfl; (with_reducible repeat (first | refine blk_drewN ?_ _ | refine blk_drew ?_ | refine blk_alloc ?_ _)); refine blk_put (cs := #[.int .u8 ((rd_T51 ((rd_T49 l0_3 x12_1).f0) x19_2).f0), .int .i64 ((rd_T51 ((rd_T49 l0_3 x12_1).f0) x19_2).f1), .int .i64 0, .int .i64 0, .int .i64 0, .string (⟨#[]⟩ : ByteArray)]) ?_ 2 _ rfl; (with_reducible repeat (first | refine blk_drewN ?_ _ | refine blk_drew ?_ | refine blk_alloc ?_ _)); refine blk_put (cs := #[.int .u8 ((rd_T51 ((rd_T49 l0_3 x12_1).f0) x19_2).f0), .int .i64 0, .int .i64 0, .int .i64 0, .int .i64 0, .string (⟨#[]⟩ : ByteArray)]) ?_ 1 _ rfl; (with_reducible repeat (first | refine blk_drewN ?_ _ | refine blk_drew ?_ | refine blk_alloc ?_ _)); refine blk_put (cs := #[.int .u8 0, .int .i64 0, .int .i64 0, .int .i64 0, .int .i64 0, .string (⟨#[]⟩ : ByteArray)]) ?_ 0 _ rfl; (with_reducible repeat (first | refine blk_drewN ?_ _ | refine blk_drew ?_ | refine blk_alloc ?_ _)); exact BK117.out⟩, ⟨by repeat (first | (with_reducible first | exact HB.out | apply below_alloc | apply pw_below_drewN | apply below_drew1 | refine below_set ?_ GE113.out | refine below_set ?_ GE115.out | refine below_set ?_ GE117.out) | exact HB.out)⟩⟩
                          · rw [if_neg c19] at H
                            have c19b0 : (((rd_T51 ((rd_T49 l0_3 x12_1).f0) x19_2).f0) == 7) = false := beq_eq_false_iff_ne.mpr c19
                            have c19b1 : (((rd_T51 ((rd_T49 l0_3 x12_1).f0) x19_2).f0) != 7) = true := bne_iff_ne.mpr c19
                            by_cases c20 : ((rd_T51 ((rd_T49 l0_3 x12_1).f0) x19_2).f0) = 11
                            · rw [if_pos c20] at H
                              have c20b0 : (((rd_T51 ((rd_T49 l0_3 x12_1).f0) x19_2).f0) == 11) = true := beq_iff_eq.mpr c20
                              have c20b1 : (((rd_T51 ((rd_T49 l0_3 x12_1).f0) x19_2).f0) != 11) = false := bne_eq_false_iff_eq.mpr c20
                              clear c20
                              have H' := Aside0.mk H
                              clear H
                              go_wp2
                              go_meet
                              case rel => exact ⟨_, ((((rd_T51 ((rd_T49 l0_3 x12_1).f0) x19_2).f0) == 11)), (by first | rfl | (simp; done) | (simp [*]; done)), H', ⟨by have := HK1.out; have := HK2.out; first | omega | exact Nat.le_refl _⟩, ⟨by (with_reducible repeat (first | apply Kd.R_alloc | apply Kd.R_drewN | apply Kd.R_drew)); exact Kd.R_mono (Kd.R_far (p := ⟨gb117, 5, none⟩) (Kd.R_far (p := ⟨gb117, 4, none⟩) (Kd.R_far (p := ⟨gb117, 3, none⟩) (Kd.R_far (p := ⟨gb117, 2, none⟩) (Kd.R_far (p := ⟨gb117, 1, none⟩) (Kd.R_far (p := ⟨gb117, 0, none⟩) (Kd.R_types HO_3.out BK117.out (by decide)) (fun _ hk => hk.2) (.int .u8 ((rd_T51 ((rd_T49 l0_3 x12_1).f0) x19_2).f0))) (fun _ hk => hk.2) (.int .i64 ((rd_T51 ((rd_T49 l0_3 x12_1).f0) x19_2).f1))) (fun _ hk => hk.2) (.int .i64 ((rd_T51 ((rd_T49 l0_3 x12_1).f0) x19_2).f2))) (fun _ hk => hk.2) (.int .i64 ((rd_T51 ((rd_T49 l0_3 x12_1).f0) x19_2).f3))) (fun _ hk => hk.2) (.int .i64 ((rd_T51 ((rd_T49 l0_3 x12_1).f0) x19_2).f4))) (fun _ hk => hk.2) (.string ((rd_T51 ((rd_T49 l0_3 x12_1).f0) x19_2).f5))) (fun _ hk => trivial)⟩, ⟨by (with_reducible repeat (first | refine blk_drewN ?_ _ | refine blk_drew ?_ | refine blk_alloc ?_ _)); refine blk_far ?_ NB113_117.out _; (with_reducible repeat (first | refine blk_drewN ?_ _ | refine blk_drew ?_ | refine blk_alloc ?_ _)); refine blk_far ?_ NB113_117.out _; (with_reducible repeat (first | refine blk_drewN ?_ _ | refine blk_drew ?_ | refine blk_alloc ?_ _)); refine blk_far ?_ NB113_117.out _; (with_reducible repeat (first | refine blk_drewN ?_ _ | refine blk_drew ?_ | refine blk_alloc ?_ _)); refine blk_far ?_ NB113_117.out _; (with_reducible repeat (first | refine blk_drewN ?_ _ | refine blk_drew ?_ | refine blk_alloc ?_ _)); refine blk_far ?_ NB113_117.out _; (with_reducible repeat (first | refine blk_drewN ?_ _ | refine blk_drew ?_ | refine blk_alloc ?_ _)); refine blk_far ?_ NB113_117.out _; (with_reducible repeat (first | refine blk_drewN ?_ _ | refine blk_drew ?_ | refine blk_alloc ?_ _)); exact BK113.out⟩, ⟨by (with_reducible repeat (first | refine blk_drewN ?_ _ | refine blk_drew ?_ | refine blk_alloc ?_ _)); refine blk_far ?_ NB115_117.out _; (with_reducible repeat (first | refine blk_drewN ?_ _ | refine blk_drew ?_ | refine blk_alloc ?_ _)); refine blk_far ?_ NB115_117.out _; (with_reducible repeat (first | refine blk_drewN ?_ _ | refine blk_drew ?_ | refine blk_alloc ?_ _)); refine blk_far ?_ NB115_117.out _; (with_reducible repeat (first | refine blk_drewN ?_ _ | refine blk_drew ?_ | refine blk_alloc ?_ _)); refine blk_far ?_ NB115_117.out _; (with_reducible repeat (first | refine blk_drewN ?_ _ | refine blk_drew ?_ | refine blk_alloc ?_ _)); refine blk_far ?_ NB115_117.out _; (with_reducible repeat (first | refine blk_drewN ?_ _ | refine blk_drew ?_ | refine blk_alloc ?_ _)); refine blk_far ?_ NB115_117.out _; (with_reducible repeat (first | refine blk_drewN ?_ _ | refine blk_drew ?_ | refine blk_alloc ?_ _)); exact BK115.out⟩, ⟨by (with_reducible repeat (first | refine blk_drewN ?_ _ | refine blk_drew ?_ | refine blk_alloc ?_ _)); refine blk_put (cs := #[.int .u8 ((rd_T51 ((rd_T49 l0_3 x12_1).f0) x19_2).f0), .int .i64 ((rd_T51 ((rd_T49 l0_3 x12_1).f0) x19_2).f1), .int .i64 ((rd_T51 ((rd_T49 l0_3 x12_1).f0) x19_2).f2), .int .i64 ((rd_T51 ((rd_T49 l0_3 x12_1).f0) x19_2).f3), .int .i64 ((rd_T51 ((rd_T49 l0_3 x12_1).f0) x19_2).f4), .string (⟨#[]⟩ : ByteArray)]) ?_ 5 _ rfl; (with_reducible repeat (first | refine blk_drewN ?_ _ | refine blk_drew ?_ | refine blk_alloc ?_ _)); refine blk_put (cs := #[.int .u8 ((rd_T51 ((rd_T49 l0_3 x12_1).f0) x19_2).f0), .int .i64 ((rd_T51 ((rd_T49 l0_3 x12_1).f0) x19_2).f1), .int .i64 ((rd_T51 ((rd_T49 l0_3 x12_1).f0) x19_2).f2), .int .i64 ((rd_T51 ((rd_T49 l0_3 x12_1).f0) x19_2).f3), .int .i64 0, .string (⟨#[]⟩ : ByteArray)]) ?_ 4 _ rfl; (with_reducible repeat (first | refine blk_drewN ?_ _ | refine blk_drew ?_ | refine blk_alloc ?_ _)); refine blk_put (cs := #[.int .u8 ((rd_T51 ((rd_T49 l0_3 x12_1).f0) x19_2).f0), .int .i64 ((rd_T51 ((rd_T49 l0_3 x12_1).f0) x19_2).f1), .int .i64 ((rd_T51 ((rd_T49 l0_3 x12_1).f0) x19_2).f2), .int .i64 0, .int .i64 0, .string (⟨#[]⟩ : ByteArray)]) ?_ 3 _ rfl; (with_reducible repeat (first | refine blk_drewN ?_ _ | refine blk_drew ?_ | refine blk_alloc ?_ _)); refine blk_put (cs := #[.int .u8 ((rd_T51 ((rd_T49 l0_3 x12_1).f0) x19_2).f0), .int .i64 ((rd_T51 ((rd_T49 l0_3 x12_1).f0) x19_2).f1), .int .i64 0, .int .i64 0, .int .i64 0, .string (⟨#[]⟩ : ByteArray)]) ?_ 2 _ rfl; (with_reducible repeat (first | refine blk_drewN ?_ _ | refine blk_drew ?_ | refine blk_alloc ?_ _)); refine blk_put (cs := #[.int .u8 ((rd_T51 ((rd_T49 l0_3 x12_1).f0) x19_2).f0), .int .i64 0, .int .i64 0, .int .i64 0, .int .i64 0, .string (⟨#[]⟩ : ByteArray)]) ?_ 1 _ rfl; (with_reducible repeat (first | refine blk_drewN ?_ _ | refine blk_drew ?_ | refine blk_alloc ?_ _)); refine blk_put (cs := #[.int .u8 0, .int .i64 0, .int .i64 0, .int .i64 0, .int .i64 0, .string (⟨#[]⟩ : ByteArray)]) ?_ 0 _ rfl; (with_reducible repeat (first | refine blk_drewN ?_ _ | refine blk_drew ?_ | refine blk_alloc ?_ _)); exact BK117.out⟩, ⟨by repeat (first | (with_reducible first | exact HB.out | apply below_alloc | apply pw_below_drewN | apply below_drew1 | refine below_set ?_ GE113.out | refine below_set ?_ GE115.out | refine below_set ?_ GE117.out) | exact HB.out)⟩⟩
                            · rw [if_neg c20] at H
                              have c20b0 : (((rd_T51 ((rd_T49 l0_3 x12_1).f0) x19_2).f0) == 11) = false := beq_eq_false_iff_ne.mpr c20
                              have c20b1 : (((rd_T51 ((rd_T49 l0_3 x12_1).f0) x19_2).f0) != 11) = true := bne_iff_ne.mpr c20
                              have H' := Aside0.mk H
                              clear H
                              go_wp2
                              go_meet
                              case rel => exact ⟨_, ((((rd_T51 ((rd_T49 l0_3 x12_1).f0) x19_2).f0) == 12)), (by first | rfl | (simp; done) | (simp [*]; done)), H', ⟨by have := HK1.out; have := HK2.out; first | omega | exact Nat.le_refl _⟩, ⟨by (with_reducible repeat (first | apply Kd.R_alloc | apply Kd.R_drewN | apply Kd.R_drew)); exact Kd.R_mono (Kd.R_far (p := ⟨gb117, 5, none⟩) (Kd.R_far (p := ⟨gb117, 4, none⟩) (Kd.R_far (p := ⟨gb117, 3, none⟩) (Kd.R_far (p := ⟨gb117, 2, none⟩) (Kd.R_far (p := ⟨gb117, 1, none⟩) (Kd.R_far (p := ⟨gb117, 0, none⟩) (Kd.R_types HO_3.out BK117.out (by decide)) (fun _ hk => hk.2) (.int .u8 ((rd_T51 ((rd_T49 l0_3 x12_1).f0) x19_2).f0))) (fun _ hk => hk.2) (.int .i64 ((rd_T51 ((rd_T49 l0_3 x12_1).f0) x19_2).f1))) (fun _ hk => hk.2) (.int .i64 ((rd_T51 ((rd_T49 l0_3 x12_1).f0) x19_2).f2))) (fun _ hk => hk.2) (.int .i64 ((rd_T51 ((rd_T49 l0_3 x12_1).f0) x19_2).f3))) (fun _ hk => hk.2) (.int .i64 ((rd_T51 ((rd_T49 l0_3 x12_1).f0) x19_2).f4))) (fun _ hk => hk.2) (.string ((rd_T51 ((rd_T49 l0_3 x12_1).f0) x19_2).f5))) (fun _ hk => trivial)⟩, ⟨by (with_reducible repeat (first | refine blk_drewN ?_ _ | refine blk_drew ?_ | refine blk_alloc ?_ _)); refine blk_far ?_ NB113_117.out _; (with_reducible repeat (first | refine blk_drewN ?_ _ | refine blk_drew ?_ | refine blk_alloc ?_ _)); refine blk_far ?_ NB113_117.out _; (with_reducible repeat (first | refine blk_drewN ?_ _ | refine blk_drew ?_ | refine blk_alloc ?_ _)); refine blk_far ?_ NB113_117.out _; (with_reducible repeat (first | refine blk_drewN ?_ _ | refine blk_drew ?_ | refine blk_alloc ?_ _)); refine blk_far ?_ NB113_117.out _; (with_reducible repeat (first | refine blk_drewN ?_ _ | refine blk_drew ?_ | refine blk_alloc ?_ _)); refine blk_far ?_ NB113_117.out _; (with_reducible repeat (first | refine blk_drewN ?_ _ | refine blk_drew ?_ | refine blk_alloc ?_ _)); refine blk_far ?_ NB113_117.out _; (with_reducible repeat (first | refine blk_drewN ?_ _ | refine blk_drew ?_ | refine blk_alloc ?_ _)); exact BK113.out⟩, ⟨by (with_reducible repeat (first | refine blk_drewN ?_ _ | refine blk_drew ?_ | refine blk_alloc ?_ _)); refine blk_far ?_ NB115_117.out _; (with_reducible repeat (first | refine blk_drewN ?_ _ | refine blk_drew ?_ | refine blk_alloc ?_ _)); refine blk_far ?_ NB115_117.out _; (with_reducible repeat (first | refine blk_drewN ?_ _ | refine blk_drew ?_ | refine blk_alloc ?_ _)); refine blk_far ?_ NB115_117.out _; (with_reducible repeat (first | refine blk_drewN ?_ _ | refine blk_drew ?_ | refine blk_alloc ?_ _)); refine blk_far ?_ NB115_117.out _; (with_reducible repeat (first | refine blk_drewN ?_ _ | refine blk_drew ?_ | refine blk_alloc ?_ _)); refine blk_far ?_ NB115_117.out _; (with_reducible repeat (first | refine blk_drewN ?_ _ | refine blk_drew ?_ | refine blk_alloc ?_ _)); refine blk_far ?_ NB115_117.out _; (with_reducible repeat (first | refine blk_drewN ?_ _ | refine blk_drew ?_ | refine blk_alloc ?_ _)); exact BK115.out⟩, ⟨by (with_reducible repeat (first | refine blk_drewN ?_ _ | refine blk_drew ?_ | refine blk_alloc ?_ _)); refine blk_put (cs := #[.int .u8 ((rd_T51 ((rd_T49 l0_3 x12_1).f0) x19_2).f0), .int .i64 ((rd_T51 ((rd_T49 l0_3 x12_1).f0) x19_2).f1), .int .i64 ((rd_T51 ((rd_T49 l0_3 x12_1).f0) x19_2).f2), .int .i64 ((rd_T51 ((rd_T49 l0_3 x12_1).f0) x19_2).f3), .int .i64 ((rd_T51 ((rd_T49 l0_3 x12_1).f0) x19_2).f4), .string (⟨#[]⟩ : ByteArray)]) ?_ 5 _ rfl; (with_reducible repeat (first | refine blk_drewN ?_ _ | refine blk_drew ?_ | refine blk_alloc ?_ _)); refine blk_put (cs := #[.int .u8 ((rd_T51 ((rd_T49 l0_3 x12_1).f0) x19_2).f0), .int .i64 ((rd_T51 ((rd_T49 l0_3 x12_1).f0) x19_2).f1), .int .i64 ((rd_T51 ((rd_T49 l0_3 x12_1).f0) x19_2).f2), .int .i64 ((rd_T51 ((rd_T49 l0_3 x12_1).f0) x19_2).f3), .int .i64 0, .string (⟨#[]⟩ : ByteArray)]) ?_ 4 _ rfl; (with_reducible repeat (first | refine blk_drewN ?_ _ | refine blk_drew ?_ | refine blk_alloc ?_ _)); refine blk_put (cs := #[.int .u8 ((rd_T51 ((rd_T49 l0_3 x12_1).f0) x19_2).f0), .int .i64 ((rd_T51 ((rd_T49 l0_3 x12_1).f0) x19_2).f1), .int .i64 ((rd_T51 ((rd_T49 l0_3 x12_1).f0) x19_2).f2), .int .i64 0, .int .i64 0, .string (⟨#[]⟩ : ByteArray)]) ?_ 3 _ rfl; (with_reducible repeat (first | refine blk_drewN ?_ _ | refine blk_drew ?_ | refine blk_alloc ?_ _)); refine blk_put (cs := #[.int .u8 ((rd_T51 ((rd_T49 l0_3 x12_1).f0) x19_2).f0), .int .i64 ((rd_T51 ((rd_T49 l0_3 x12_1).f0) x19_2).f1), .int .i64 0, .int .i64 0, .int .i64 0, .string (⟨#[]⟩ : ByteArray)]) ?_ 2 _ rfl; (with_reducible repeat (first | refine blk_drewN ?_ _ | refine blk_drew ?_ | refine blk_alloc ?_ _)); refine blk_put (cs := #[.int .u8 ((rd_T51 ((rd_T49 l0_3 x12_1).f0) x19_2).f0), .int .i64 0, .int .i64 0, .int .i64 0, .int .i64 0, .string (⟨#[]⟩ : ByteArray)]) ?_ 1 _ rfl; (with_reducible repeat (first | refine blk_drewN ?_ _ | refine blk_drew ?_ | refine blk_alloc ?_ _)); refine blk_put (cs := #[.int .u8 0, .int .i64 0, .int .i64 0, .int .i64 0, .int .i64 0, .string (⟨#[]⟩ : ByteArray)]) ?_ 0 _ rfl; (with_reducible repeat (first | refine blk_drewN ?_ _ | refine blk_drew ?_ | refine blk_alloc ?_ _)); exact BK117.out⟩, ⟨by repeat (first | (with_reducible first | exact HB.out | apply below_alloc | apply pw_below_drewN | apply below_drew1 | refine below_set ?_ GE113.out | refine below_set ?_ GE115.out | refine below_set ?_ GE117.out) | exact HB.out)⟩⟩
                      case rest =>
                        clear HC13
                        try clear c1
                        try clear p1
                        try clear q1
                        try clear hx1
                        try clear c2
                        try clear p2
                        try clear c4
                        try clear c4b0
                        try clear c5
                        try clear c5b0
                        try clear c6
                        try clear c6b0
                        try clear c8
                        try clear c10
                        try clear c10b0
                        try clear c11
                        try clear c11b0
                        try clear p11
                        try clear q11
                        try clear hx11
                        try clear c12
                        try clear c12b0
                        try clear c15
                        try clear c16
                        try clear c18
                        try clear c18b0
                        try clear c18b1
                        try clear c19
                        try clear c19b0
                        try clear c19b1
                        try clear c20
                        try clear c20b0
                        try clear c20b1
                        try clear hcz17_0
                        try clear hcz17_1
                        try clear hcz17_2
                        try clear hcz17_3
                        try clear hcz17_4
                        try clear hcz17_5
                        try clear hcz3_0
                        try clear hcz3_1
                        try clear hcz3_2
                        try clear hcz3_3
                        try clear hcz9_0
                        try clear hcz9_1
                        try clear hcz9_2
                        try clear hcz9_3
                        try clear hcz9_4
                        try clear hfz17_0
                        try clear hfz17_1
                        try clear hfz17_2
                        try clear hfz17_3
                        try clear hfz17_4
                        try clear hfz17_5
                        try clear hfz3_0
                        try clear hfz3_1
                        try clear hfz3_2
                        try clear hfz3_3
                        try clear hfz9_0
                        try clear hfz9_1
                        try clear hfz9_2
                        try clear hfz9_3
                        try clear hfz9_4
                        try clear hx114_0
                        try clear hx114_1
                        try clear hx114_2
                        try clear hx114_3
                        try clear hx114_4
                        try clear hx116_0
                        try clear hx116_1
                        try clear hx116_2
                        try clear hx116_3
                        try clear hx116_4
                        try clear hx116_5
                        try clear p1
                        try clear p114
                        try clear p116
                        try clear p2
                        try clear q1
                        try clear q114
                        try clear q116
                        obtain ⟨kq, x25_12, rfl, HA, HJ12, HO_3, BK113, BK115, BK117, HB⟩ := hcut
                        cases kq with
                        | zero => exact absurd HA.out (by simp [codegen_mentioned.j2])
                        | succ kj12 =>
                          have H := HA.out
                          clear HA
                          simp only [codegen_mentioned.j2] at H
                          by_cases c21 : x25_12 = true
                          · subst c21
                            have H1 : ((api_Array_45.f kj12 x3_2 ((rd_T51 ((rd_T49 l0_3 x12_1).f0) x19_2).f5) 1).bind fun t119 => (if t119 = true then (codegen_mentioned.l1 kj12 x3_2 l0_3 (l0_3.length : Int) x12_1 ((rd_T49 l0_3 x12_1).f0) (((rd_T49 l0_3 x12_1).f0).length : Int) (wrap64 (x19_2 + 1))) else (if x3_2.length < 5864062014805 then (codegen_mentioned.l1 kj12 (x3_2 ++ [(⟨((rd_T51 ((rd_T49 l0_3 x12_1).f0) x19_2).f5), 1⟩ : S44)]) l0_3 (l0_3.length : Int) x12_1 ((rd_T49 l0_3 x12_1).f0) (((rd_T49 l0_3 x12_1).f0).length : Int) (wrap64 (x19_2 + 1))) else (none)))) = some r := by rw [if_pos rfl] at H; exact H
                            clear H
                            have H := H1
                            clear H1
                            replace H := Option.bind_eq_some_iff.mp H
                            obtain ⟨t119, A220, H⟩ := H
                            replace H : (if t119 = true then (codegen_mentioned.l1 kj12 x3_2 l0_3 (l0_3.length : Int) x12_1 ((rd_T49 l0_3 x12_1).f0) (((rd_T49 l0_3 x12_1).f0).length : Int) (wrap64 (x19_2 + 1))) else (if x3_2.length < 5864062014805 then (codegen_mentioned.l1 kj12 (x3_2 ++ [(⟨((rd_T51 ((rd_T49 l0_3 x12_1).f0) x19_2).f5), 1⟩ : S44)]) l0_3 (l0_3.length : Int) x12_1 ((rd_T49 l0_3 x12_1).f0) (((rd_T49 l0_3 x12_1).f0).length : Int) (wrap64 (x19_2 + 1))) else (none))) = some r := H
                            have A22 := Aside0.mk A220
                            clear A220
                            by_cases c23 : t119 = true
                            · subst c23
                              have H1 : (codegen_mentioned.l1 kj12 x3_2 l0_3 (l0_3.length : Int) x12_1 ((rd_T49 l0_3 x12_1).f0) (((rd_T49 l0_3 x12_1).f0).length : Int) (wrap64 (x19_2 + 1))) = some r := by rw [if_pos rfl] at H; exact H
                              clear H
                              have H := H1
                              clear H1
                              have H' := Aside0.mk H
                              clear H
                              have hnb24 := NB117_113.out
                              have hnc24 := NB113_117.out
                              have hnb25 := NB117_115.out
                              have hnc25 := NB115_117.out
                              have hcz26_0 : wc.cell? ⟨gb117, 0, none⟩ = some (.int .u8 ((rd_T51 ((rd_T49 l0_3 x12_1).f0) x19_2).f0)) := (blk_cell BK117.out 0).trans rfl
                              have hcz26_1 : wc.cell? ⟨gb117, 1, none⟩ = some (.int .i64 ((rd_T51 ((rd_T49 l0_3 x12_1).f0) x19_2).f1)) := (blk_cell BK117.out 1).trans rfl
                              have hcz26_2 : wc.cell? ⟨gb117, 2, none⟩ = some (.int .i64 ((rd_T51 ((rd_T49 l0_3 x12_1).f0) x19_2).f2)) := (blk_cell BK117.out 2).trans rfl
                              have hcz26_3 : wc.cell? ⟨gb117, 3, none⟩ = some (.int .i64 ((rd_T51 ((rd_T49 l0_3 x12_1).f0) x19_2).f3)) := (blk_cell BK117.out 3).trans rfl
                              have hcz26_4 : wc.cell? ⟨gb117, 4, none⟩ = some (.int .i64 ((rd_T51 ((rd_T49 l0_3 x12_1).f0) x19_2).f4)) := (blk_cell BK117.out 4).trans rfl
                              have hcz26_5 : wc.cell? ⟨gb117, 5, none⟩ = some (.string ((rd_T51 ((rd_T49 l0_3 x12_1).f0) x19_2).f5)) := (blk_cell BK117.out 5).trans rfl
                              have hfz26_0 := blk_frozen BK117.out 0
                              have hfz26_1 := blk_frozen BK117.out 1
                              have hfz26_2 := blk_frozen BK117.out 2
                              have hfz26_3 := blk_frozen BK117.out 3
                              have hfz26_4 := blk_frozen BK117.out 4
                              have hfz26_5 := blk_frozen BK117.out 5
                              go_wp2_with (first | ((with_reducible refine gate_dst (N := 8) rfl ?_); refine box_event ?hg (N := 8) ?hd (cs := #[.string (⟨#[]⟩ : ByteArray), .int .i64 0]) (t := 44) ?hr ?_; (case hd => rfl); (case hg => rfl); (case hr => first | (go_simp; done) | (go_simp; rfl)); intro gb118 hg w27 hbox hb; have n0_ := Aside0.mk (Kd.R_below (Kd.R_elderB (by (with_reducible repeat (first | apply Kd.R_alloc | apply Kd.R_drewN | apply Kd.R_drew)); exact HO_3.out) gb118 (Nat.le_of_eq hg.symm)) hb); have n1_ := Aside0.mk (blk_below (g := gb113) (o := .cells #[.string a0_0, .int .i64 a0_1, .slice A0_2 l0_2.length c0_2, .slice (some ad114) l0_3.length c0_3] 25 (0, 0)) (by (with_reducible repeat (first | refine blk_drewN ?_ _ | refine blk_drew ?_ | refine blk_alloc ?_ _)); exact BK113.out) hb); have n2_ := Aside0.mk (blk_below (g := gb115) (o := .cells #[.slice (some ad116) ((rd_T49 l0_3 x12_1).f0).length c114_0, .int .u8 ((rd_T49 l0_3 x12_1).f1), .int .i64 ((rd_T49 l0_3 x12_1).f2), .int .i64 ((rd_T49 l0_3 x12_1).f3), .int .i64 ((rd_T49 l0_3 x12_1).f4)] 49 (0, 0)) (by (with_reducible repeat (first | refine blk_drewN ?_ _ | refine blk_drew ?_ | refine blk_alloc ?_ _)); exact BK115.out) hb); have n3_ := Aside0.mk (blk_below (g := gb117) (o := .cells #[.int .u8 ((rd_T51 ((rd_T49 l0_3 x12_1).f0) x19_2).f0), .int .i64 ((rd_T51 ((rd_T49 l0_3 x12_1).f0) x19_2).f1), .int .i64 ((rd_T51 ((rd_T49 l0_3 x12_1).f0) x19_2).f2), .int .i64 ((rd_T51 ((rd_T49 l0_3 x12_1).f0) x19_2).f3), .int .i64 ((rd_T51 ((rd_T49 l0_3 x12_1).f0) x19_2).f4), .string ((rd_T51 ((rd_T49 l0_3 x12_1).f0) x19_2).f5)] 51 (0, 0)) (by (with_reducible repeat (first | refine blk_drewN ?_ _ | refine blk_drew ?_ | refine blk_alloc ?_ _)); exact BK117.out) hb); have n4_ := Aside0.mk (below_step (by repeat (first | (with_reducible first | exact HB.out | apply below_alloc | apply pw_below_drewN | apply below_drew1 | refine below_set ?_ GE113.out | refine below_set ?_ GE115.out | refine below_set ?_ GE117.out) | exact HB.out)) hb); have n5_ := Aside0.mk (hbox); have n6_ := Aside0.mk ((by rw [hg]; exact (below_size (by repeat (first | (with_reducible first | exact HB.out | apply below_alloc | apply pw_below_drewN | apply below_drew1 | refine below_set ?_ GE113.out | refine below_set ?_ GE115.out | refine below_set ?_ GE117.out) | exact HB.out))) : w.heap.size ≤ gb118)); have n7_ := Aside0.mk ((by rw [hg]; exact (below_size (by repeat (first | (with_reducible first | exact HB.out | apply below_alloc | apply pw_below_drewN | apply below_drew1 | refine below_set ?_ GE113.out | refine below_set ?_ GE115.out | refine below_set ?_ GE117.out) | exact HB.out))) : w.heap.size ≤ gb118)); have n8_ := Aside0.mk ((by rw [hg]; exact Nat.ne_of_lt (blk_lt (g := gb113) (o := .cells #[.string a0_0, .int .i64 a0_1, .slice A0_2 l0_2.length c0_2, .slice (some ad114) l0_3.length c0_3] 25 (0, 0)) (by (with_reducible repeat (first | refine blk_drewN ?_ _ | refine blk_drew ?_ | refine blk_alloc ?_ _)); exact BK113.out)) : gb113 ≠ gb118)); have n9_ := Aside0.mk ((by rw [hg]; exact Nat.ne_of_gt (blk_lt (g := gb113) (o := .cells #[.string a0_0, .int .i64 a0_1, .slice A0_2 l0_2.length c0_2, .slice (some ad114) l0_3.length c0_3] 25 (0, 0)) (by (with_reducible repeat (first | refine blk_drewN ?_ _ | refine blk_drew ?_ | refine blk_alloc ?_ _)); exact BK113.out)) : gb118 ≠ gb113)); have n10_ := Aside0.mk ((by rw [hg]; exact Nat.ne_of_lt (blk_lt (g := gb115) (o := .cells #[.slice (some ad116) ((rd_T49 l0_3 x12_1).f0).length c114_0, .int .u8 ((rd_T49 l0_3 x12_1).f1), .int .i64 ((rd_T49 l0_3 x12_1).f2), .int .i64 ((rd_T49 l0_3 x12_1).f3), .int .i64 ((rd_T49 l0_3 x12_1).f4)] 49 (0, 0)) (by (with_reducible repeat (first | refine blk_drewN ?_ _ | refine blk_drew ?_ | refine blk_alloc ?_ _)); exact BK115.out)) : gb115 ≠ gb118)); have n11_ := Aside0.mk ((by rw [hg]; exact Nat.ne_of_gt (blk_lt (g := gb115) (o := .cells #[.slice (some ad116) ((rd_T49 l0_3 x12_1).f0).length c114_0, .int .u8 ((rd_T49 l0_3 x12_1).f1), .int .i64 ((rd_T49 l0_3 x12_1).f2), .int .i64 ((rd_T49 l0_3 x12_1).f3), .int .i64 ((rd_T49 l0_3 x12_1).f4)] 49 (0, 0)) (by (with_reducible repeat (first | refine blk_drewN ?_ _ | refine blk_drew ?_ | refine blk_alloc ?_ _)); exact BK115.out)) : gb118 ≠ gb115)); have n12_ := Aside0.mk ((by rw [hg]; exact Nat.ne_of_lt (blk_lt (g := gb117) (o := .cells #[.int .u8 ((rd_T51 ((rd_T49 l0_3 x12_1).f0) x19_2).f0), .int .i64 ((rd_T51 ((rd_T49 l0_3 x12_1).f0) x19_2).f1), .int .i64 ((rd_T51 ((rd_T49 l0_3 x12_1).f0) x19_2).f2), .int .i64 ((rd_T51 ((rd_T49 l0_3 x12_1).f0) x19_2).f3), .int .i64 ((rd_T51 ((rd_T49 l0_3 x12_1).f0) x19_2).f4), .string ((rd_T51 ((rd_T49 l0_3 x12_1).f0) x19_2).f5)] 51 (0, 0)) (by (with_reducible repeat (first | refine blk_drewN ?_ _ | refine blk_drew ?_ | refine blk_alloc ?_ _)); exact BK117.out)) : gb117 ≠ gb118)); have n13_ := Aside0.mk ((by rw [hg]; exact Nat.ne_of_gt (blk_lt (g := gb117) (o := .cells #[.int .u8 ((rd_T51 ((rd_T49 l0_3 x12_1).f0) x19_2).f0), .int .i64 ((rd_T51 ((rd_T49 l0_3 x12_1).f0) x19_2).f1), .int .i64 ((rd_T51 ((rd_T49 l0_3 x12_1).f0) x19_2).f2), .int .i64 ((rd_T51 ((rd_T49 l0_3 x12_1).f0) x19_2).f3), .int .i64 ((rd_T51 ((rd_T49 l0_3 x12_1).f0) x19_2).f4), .string ((rd_T51 ((rd_T49 l0_3 x12_1).f0) x19_2).f5)] 51 (0, 0)) (by (with_reducible repeat (first | refine blk_drewN ?_ _ | refine blk_drew ?_ | refine blk_alloc ?_ _)); exact BK117.out)) : gb118 ≠ gb117)); clear HO_3; clear BK113; clear BK115; clear BK117; clear HB; have HO_3 := n0_; have BK113 := n1_; have BK115 := n2_; have BK117 := n3_; have HB := n4_; have BK118 := n5_; have GW118 := n6_; have GE118 := n7_; have NB113_118 := n8_; have NB118_113 := n9_; have NB115_118 := n10_; have NB118_115 := n11_; have NB117_118 := n12_; have NB118_117 := n13_; clear n0_ n1_ n2_ n3_ n4_ n5_ n6_ n7_ n8_ n9_ n10_ n11_ n12_ n13_; clear hb hbox hg; have hnb28 := NB118_113.out; have hnc28 := NB113_118.out; have hnb29 := NB118_115.out; have hnc29 := NB115_118.out; have hnb30 := NB118_117.out; have hnc30 := NB117_118.out; have hcz31_0 : w27.cell? ⟨gb118, 0, none⟩ = some (.string (⟨#[]⟩ : ByteArray)) := (blk_cell BK118.out 0).trans rfl; have hcz31_1 : w27.cell? ⟨gb118, 1, none⟩ = some (.int .i64 0) := (blk_cell BK118.out 1).trans rfl; have hfz31_0 := blk_frozen BK118.out 0; have hfz31_1 := blk_frozen BK118.out 1; obtain ⟨Ao32, co32, eo32⟩ := Kd.R_slice HO_3.out; subst eo32) | ((with_reducible refine gate_callee (f := 45) rfl ?_); refine goesL_ (some 35) rfl rfl Try.func45 (by kernel_rfl) rfl #[.slice Ao32 x3_2.length co32, .agg #[.string ((rd_T51 ((rd_T49 l0_3 x12_1).f0) x19_2).f5), .int .i64 1]] rfl (by (try simp only [List.map_toArray, List.map_cons, List.map_nil]); first | done | rfl | (simp only [List.length_drop, List.length_take]; rfl)) ?_; (with_reducible refine (api_Array_45.calls kj12 _ _ x3_2 ((rd_T51 ((rd_T49 l0_3 x12_1).f0) x19_2).f5) 1 true _ ?side1 ?side2 A22.out).mono ?_); (case side1 => refine (Kd.R_reads' (e := 44) (base := w.heap.size) (ok := fun k_ => (True ∧ k_ ≠ gb118)) (n := x3_2.length) (c := co32) ?_).2.2; exact (by (with_reducible repeat (first | apply Kd.R_alloc | apply Kd.R_drewN | apply Kd.R_drew)); exact (Kd.R_mono (Kd.R_far (p := ⟨gb118, 1, none⟩) (Kd.R_far (p := ⟨gb118, 0, none⟩) (Kd.R_mono HO_3.out (fun k_ hk => (⟨hk, hk.2⟩ : _ ∧ k_ ≠ gb118))) (fun _ hk => hk.2) (.string ((rd_T51 ((rd_T49 l0_3 x12_1).f0) x19_2).f5))) (fun _ hk => hk.2) (.int .i64 1)) (fun _ h_ => h_.1)))); (case side2 => exact (Kd.R_reads' HO_3.out).2.1); rintro e w33 ⟨rfl, hb⟩; refine ⟨_, rfl, ?_⟩; have n0_ := Aside0.mk (Kd.R_below (by (with_reducible repeat (first | apply Kd.R_alloc | apply Kd.R_drewN | apply Kd.R_drew)); exact (Kd.R_mono (Kd.R_far (p := ⟨gb118, 1, none⟩) (Kd.R_far (p := ⟨gb118, 0, none⟩) (Kd.R_mono HO_3.out (fun k_ hk => (⟨hk, hk.2⟩ : _ ∧ k_ ≠ gb118))) (fun _ hk => hk.2) (.string ((rd_T51 ((rd_T49 l0_3 x12_1).f0) x19_2).f5))) (fun _ hk => hk.2) (.int .i64 1)) (fun _ h_ => h_.1))) hb); have n1_ := Aside0.mk (blk_below (g := gb113) (o := .cells #[.string a0_0, .int .i64 a0_1, .slice A0_2 l0_2.length c0_2, .slice (some ad114) l0_3.length c0_3] 25 (0, 0)) (by (with_reducible repeat (first | refine blk_drewN ?_ _ | refine blk_drew ?_ | refine blk_alloc ?_ _)); refine blk_far ?_ NB113_118.out _; (with_reducible repeat (first | refine blk_drewN ?_ _ | refine blk_drew ?_ | refine blk_alloc ?_ _)); refine blk_far ?_ NB113_118.out _; (with_reducible repeat (first | refine blk_drewN ?_ _ | refine blk_drew ?_ | refine blk_alloc ?_ _)); exact BK113.out) hb); have n2_ := Aside0.mk (blk_below (g := gb115) (o := .cells #[.slice (some ad116) ((rd_T49 l0_3 x12_1).f0).length c114_0, .int .u8 ((rd_T49 l0_3 x12_1).f1), .int .i64 ((rd_T49 l0_3 x12_1).f2), .int .i64 ((rd_T49 l0_3 x12_1).f3), .int .i64 ((rd_T49 l0_3 x12_1).f4)] 49 (0, 0)) (by (with_reducible repeat (first | refine blk_drewN ?_ _ | refine blk_drew ?_ | refine blk_alloc ?_ _)); refine blk_far ?_ NB115_118.out _; (with_reducible repeat (first | refine blk_drewN ?_ _ | refine blk_drew ?_ | refine blk_alloc ?_ _)); refine blk_far ?_ NB115_118.out _; (with_reducible repeat (first | refine blk_drewN ?_ _ | refine blk_drew ?_ | refine blk_alloc ?_ _)); exact BK115.out) hb); have n3_ := Aside0.mk (blk_below (g := gb117) (o := .cells #[.int .u8 ((rd_T51 ((rd_T49 l0_3 x12_1).f0) x19_2).f0), .int .i64 ((rd_T51 ((rd_T49 l0_3 x12_1).f0) x19_2).f1), .int .i64 ((rd_T51 ((rd_T49 l0_3 x12_1).f0) x19_2).f2), .int .i64 ((rd_T51 ((rd_T49 l0_3 x12_1).f0) x19_2).f3), .int .i64 ((rd_T51 ((rd_T49 l0_3 x12_1).f0) x19_2).f4), .string ((rd_T51 ((rd_T49 l0_3 x12_1).f0) x19_2).f5)] 51 (0, 0)) (by (with_reducible repeat (first | refine blk_drewN ?_ _ | refine blk_drew ?_ | refine blk_alloc ?_ _)); refine blk_far ?_ NB117_118.out _; (with_reducible repeat (first | refine blk_drewN ?_ _ | refine blk_drew ?_ | refine blk_alloc ?_ _)); refine blk_far ?_ NB117_118.out _; (with_reducible repeat (first | refine blk_drewN ?_ _ | refine blk_drew ?_ | refine blk_alloc ?_ _)); exact BK117.out) hb); have n4_ := Aside0.mk (blk_below (g := gb118) (o := .cells #[.string ((rd_T51 ((rd_T49 l0_3 x12_1).f0) x19_2).f5), .int .i64 1] 44 (0, 0)) (by (with_reducible repeat (first | refine blk_drewN ?_ _ | refine blk_drew ?_ | refine blk_alloc ?_ _)); refine blk_put (cs := #[.string ((rd_T51 ((rd_T49 l0_3 x12_1).f0) x19_2).f5), .int .i64 0]) ?_ 1 _ rfl; (with_reducible repeat (first | refine blk_drewN ?_ _ | refine blk_drew ?_ | refine blk_alloc ?_ _)); refine blk_put (cs := #[.string (⟨#[]⟩ : ByteArray), .int .i64 0]) ?_ 0 _ rfl; (with_reducible repeat (first | refine blk_drewN ?_ _ | refine blk_drew ?_ | refine blk_alloc ?_ _)); exact BK118.out) hb); have n5_ := Aside0.mk (below_step (by repeat (first | (with_reducible first | exact HB.out | apply below_alloc | apply pw_below_drewN | apply below_drew1 | refine below_set ?_ GE113.out | refine below_set ?_ GE115.out | refine below_set ?_ GE117.out | refine below_set ?_ GE118.out) | exact HB.out)) hb); clear HO_3; clear BK113; clear BK115; clear BK117; clear BK118; clear HB; have HO_3 := n0_; have BK113 := n1_; have BK115 := n2_; have BK117 := n3_; have BK118 := n4_; have HB := n5_; clear n0_ n1_ n2_ n3_ n4_ n5_; (try clear hb); (try clear hb2); (try clear hk); (try clear hi)))
                              go_roundg kj12
                              case measure => have := HK1.out; have := HK2.out; have := HJ12.out; omega
                              case rel => exact ⟨(x3_2), (wrap64 (x19_2 + 1)), (by first | rfl | (simp; done) | (simp [*]; done)), H', ⟨by have := HK1.out; have := HK2.out; have := HJ12.out; omega⟩, ⟨by (with_reducible repeat (first | apply Kd.R_alloc | apply Kd.R_drewN | apply Kd.R_drew)); exact Kd.R_mono HO_3.out (fun _ hk => trivial)⟩, ⟨by (with_reducible repeat (first | refine blk_drewN ?_ _ | refine blk_drew ?_ | refine blk_alloc ?_ _)); exact BK113.out⟩, ⟨by (with_reducible repeat (first | refine blk_drewN ?_ _ | refine blk_drew ?_ | refine blk_alloc ?_ _)); exact BK115.out⟩, ⟨by repeat (first | (with_reducible first | exact HB.out | apply below_alloc | apply pw_below_drewN | apply below_drew1 | refine below_set ?_ GE113.out | refine below_set ?_ GE115.out | refine below_set ?_ GE117.out | refine below_set ?_ GE118.out) | exact HB.out)⟩⟩
                            · replace c23 := Bool.eq_false_iff.mpr c23
                              subst c23
                              have H1 : (if x3_2.length < 5864062014805 then (codegen_mentioned.l1 kj12 (x3_2 ++ [(⟨((rd_T51 ((rd_T49 l0_3 x12_1).f0) x19_2).f5), 1⟩ : S44)]) l0_3 (l0_3.length : Int) x12_1 ((rd_T49 l0_3 x12_1).f0) (((rd_T49 l0_3 x12_1).f0).length : Int) (wrap64 (x19_2 + 1))) else (none)) = some r := by rw [if_neg (show ¬ (false = true) by decide)] at H; exact H
                              clear H
                              have H := H1
                              clear H1
                              by_cases c34 : x3_2.length < 5864062014805
                              · rw [if_pos c34] at H
                                have LMc34 := Aside0.mk c34
                                clear c34
                                obtain ⟨y120, hy120⟩ : ∃ y_ : List (S44), y_ = (x3_2 ++ [(⟨((rd_T51 ((rd_T49 l0_3 x12_1).f0) x19_2).f5), 1⟩ : S44)]) := ⟨_, rfl⟩
                                replace H : (codegen_mentioned.l1 kj12 y120 l0_3 (l0_3.length : Int) x12_1 ((rd_T49 l0_3 x12_1).f0) (((rd_T49 l0_3 x12_1).f0).length : Int) (wrap64 (x19_2 + 1))) = some r := by first | (rw [hy120]; with_reducible exact H) | (have H2_ := (Option.bind_some _ _).symm.trans H; rw [hy120]; with_reducible exact H2_) | (have H2_ := (Option.bind_some _ _).symm.trans H; with_reducible exact H2_) | with_reducible exact H | (rw [hy120]; exact H) | exact H
                                have Ny120 := Aside0.mk hy120
                                clear hy120
                                have H' := Aside0.mk H
                                clear H
                                have hnb35 := NB117_113.out
                                have hnc35 := NB113_117.out
                                have hnb36 := NB117_115.out
                                have hnc36 := NB115_117.out
                                have hcz37_0 : wc.cell? ⟨gb117, 0, none⟩ = some (.int .u8 ((rd_T51 ((rd_T49 l0_3 x12_1).f0) x19_2).f0)) := (blk_cell BK117.out 0).trans rfl
                                have hcz37_1 : wc.cell? ⟨gb117, 1, none⟩ = some (.int .i64 ((rd_T51 ((rd_T49 l0_3 x12_1).f0) x19_2).f1)) := (blk_cell BK117.out 1).trans rfl
                                have hcz37_2 : wc.cell? ⟨gb117, 2, none⟩ = some (.int .i64 ((rd_T51 ((rd_T49 l0_3 x12_1).f0) x19_2).f2)) := (blk_cell BK117.out 2).trans rfl
                                have hcz37_3 : wc.cell? ⟨gb117, 3, none⟩ = some (.int .i64 ((rd_T51 ((rd_T49 l0_3 x12_1).f0) x19_2).f3)) := (blk_cell BK117.out 3).trans rfl
                                have hcz37_4 : wc.cell? ⟨gb117, 4, none⟩ = some (.int .i64 ((rd_T51 ((rd_T49 l0_3 x12_1).f0) x19_2).f4)) := (blk_cell BK117.out 4).trans rfl
                                have hcz37_5 : wc.cell? ⟨gb117, 5, none⟩ = some (.string ((rd_T51 ((rd_T49 l0_3 x12_1).f0) x19_2).f5)) := (blk_cell BK117.out 5).trans rfl
                                have hfz37_0 := blk_frozen BK117.out 0
                                have hfz37_1 := blk_frozen BK117.out 1
                                have hfz37_2 := blk_frozen BK117.out 2
                                have hfz37_3 := blk_frozen BK117.out 3
                                have hfz37_4 := blk_frozen BK117.out 4
                                have hfz37_5 := blk_frozen BK117.out 5
                                go_wp2_with (first | ((with_reducible refine gate_dst (N := 8) rfl ?_); refine box_event ?hg (N := 8) ?hd (cs := #[.string (⟨#[]⟩ : ByteArray), .int .i64 0]) (t := 44) ?hr ?_; (case hd => rfl); (case hg => rfl); (case hr => first | (go_simp; done) | (go_simp; rfl)); intro gb118 hg w38 hbox hb; have n0_ := Aside0.mk (Kd.R_below (Kd.R_elderB (by (with_reducible repeat (first | apply Kd.R_alloc | apply Kd.R_drewN | apply Kd.R_drew)); exact HO_3.out) gb118 (Nat.le_of_eq hg.symm)) hb); have n1_ := Aside0.mk (blk_below (g := gb113) (o := .cells #[.string a0_0, .int .i64 a0_1, .slice A0_2 l0_2.length c0_2, .slice (some ad114) l0_3.length c0_3] 25 (0, 0)) (by (with_reducible repeat (first | refine blk_drewN ?_ _ | refine blk_drew ?_ | refine blk_alloc ?_ _)); exact BK113.out) hb); have n2_ := Aside0.mk (blk_below (g := gb115) (o := .cells #[.slice (some ad116) ((rd_T49 l0_3 x12_1).f0).length c114_0, .int .u8 ((rd_T49 l0_3 x12_1).f1), .int .i64 ((rd_T49 l0_3 x12_1).f2), .int .i64 ((rd_T49 l0_3 x12_1).f3), .int .i64 ((rd_T49 l0_3 x12_1).f4)] 49 (0, 0)) (by (with_reducible repeat (first | refine blk_drewN ?_ _ | refine blk_drew ?_ | refine blk_alloc ?_ _)); exact BK115.out) hb); have n3_ := Aside0.mk (blk_below (g := gb117) (o := .cells #[.int .u8 ((rd_T51 ((rd_T49 l0_3 x12_1).f0) x19_2).f0), .int .i64 ((rd_T51 ((rd_T49 l0_3 x12_1).f0) x19_2).f1), .int .i64 ((rd_T51 ((rd_T49 l0_3 x12_1).f0) x19_2).f2), .int .i64 ((rd_T51 ((rd_T49 l0_3 x12_1).f0) x19_2).f3), .int .i64 ((rd_T51 ((rd_T49 l0_3 x12_1).f0) x19_2).f4), .string ((rd_T51 ((rd_T49 l0_3 x12_1).f0) x19_2).f5)] 51 (0, 0)) (by (with_reducible repeat (first | refine blk_drewN ?_ _ | refine blk_drew ?_ | refine blk_alloc ?_ _)); exact BK117.out) hb); have n4_ := Aside0.mk (below_step (by repeat (first | (with_reducible first | exact HB.out | apply below_alloc | apply pw_below_drewN | apply below_drew1 | refine below_set ?_ GE113.out | refine below_set ?_ GE115.out | refine below_set ?_ GE117.out) | exact HB.out)) hb); have n5_ := Aside0.mk (hbox); have n6_ := Aside0.mk ((by rw [hg]; exact (below_size (by repeat (first | (with_reducible first | exact HB.out | apply below_alloc | apply pw_below_drewN | apply below_drew1 | refine below_set ?_ GE113.out | refine below_set ?_ GE115.out | refine below_set ?_ GE117.out) | exact HB.out))) : w.heap.size ≤ gb118)); have n7_ := Aside0.mk ((by rw [hg]; exact (below_size (by repeat (first | (with_reducible first | exact HB.out | apply below_alloc | apply pw_below_drewN | apply below_drew1 | refine below_set ?_ GE113.out | refine below_set ?_ GE115.out | refine below_set ?_ GE117.out) | exact HB.out))) : w.heap.size ≤ gb118)); have n8_ := Aside0.mk ((by rw [hg]; exact Nat.ne_of_lt (blk_lt (g := gb113) (o := .cells #[.string a0_0, .int .i64 a0_1, .slice A0_2 l0_2.length c0_2, .slice (some ad114) l0_3.length c0_3] 25 (0, 0)) (by (with_reducible repeat (first | refine blk_drewN ?_ _ | refine blk_drew ?_ | refine blk_alloc ?_ _)); exact BK113.out)) : gb113 ≠ gb118)); have n9_ := Aside0.mk ((by rw [hg]; exact Nat.ne_of_gt (blk_lt (g := gb113) (o := .cells #[.string a0_0, .int .i64 a0_1, .slice A0_2 l0_2.length c0_2, .slice (some ad114) l0_3.length c0_3] 25 (0, 0)) (by (with_reducible repeat (first | refine blk_drewN ?_ _ | refine blk_drew ?_ | refine blk_alloc ?_ _)); exact BK113.out)) : gb118 ≠ gb113)); have n10_ := Aside0.mk ((by rw [hg]; exact Nat.ne_of_lt (blk_lt (g := gb115) (o := .cells #[.slice (some ad116) ((rd_T49 l0_3 x12_1).f0).length c114_0, .int .u8 ((rd_T49 l0_3 x12_1).f1), .int .i64 ((rd_T49 l0_3 x12_1).f2), .int .i64 ((rd_T49 l0_3 x12_1).f3), .int .i64 ((rd_T49 l0_3 x12_1).f4)] 49 (0, 0)) (by (with_reducible repeat (first | refine blk_drewN ?_ _ | refine blk_drew ?_ | refine blk_alloc ?_ _)); exact BK115.out)) : gb115 ≠ gb118)); have n11_ := Aside0.mk ((by rw [hg]; exact Nat.ne_of_gt (blk_lt (g := gb115) (o := .cells #[.slice (some ad116) ((rd_T49 l0_3 x12_1).f0).length c114_0, .int .u8 ((rd_T49 l0_3 x12_1).f1), .int .i64 ((rd_T49 l0_3 x12_1).f2), .int .i64 ((rd_T49 l0_3 x12_1).f3), .int .i64 ((rd_T49 l0_3 x12_1).f4)] 49 (0, 0)) (by (with_reducible repeat (first | refine blk_drewN ?_ _ | refine blk_drew ?_ | refine blk_alloc ?_ _)); exact BK115.out)) : gb118 ≠ gb115)); have n12_ := Aside0.mk ((by rw [hg]; exact Nat.ne_of_lt (blk_lt (g := gb117) (o := .cells #[.int .u8 ((rd_T51 ((rd_T49 l0_3 x12_1).f0) x19_2).f0), .int .i64 ((rd_T51 ((rd_T49 l0_3 x12_1).f0) x19_2).f1), .int .i64 ((rd_T51 ((rd_T49 l0_3 x12_1).f0) x19_2).f2), .int .i64 ((rd_T51 ((rd_T49 l0_3 x12_1).f0) x19_2).f3), .int .i64 ((rd_T51 ((rd_T49 l0_3 x12_1).f0) x19_2).f4), .string ((rd_T51 ((rd_T49 l0_3 x12_1).f0) x19_2).f5)] 51 (0, 0)) (by (with_reducible repeat (first | refine blk_drewN ?_ _ | refine blk_drew ?_ | refine blk_alloc ?_ _)); exact BK117.out)) : gb117 ≠ gb118)); have n13_ := Aside0.mk ((by rw [hg]; exact Nat.ne_of_gt (blk_lt (g := gb117) (o := .cells #[.int .u8 ((rd_T51 ((rd_T49 l0_3 x12_1).f0) x19_2).f0), .int .i64 ((rd_T51 ((rd_T49 l0_3 x12_1).f0) x19_2).f1), .int .i64 ((rd_T51 ((rd_T49 l0_3 x12_1).f0) x19_2).f2), .int .i64 ((rd_T51 ((rd_T49 l0_3 x12_1).f0) x19_2).f3), .int .i64 ((rd_T51 ((rd_T49 l0_3 x12_1).f0) x19_2).f4), .string ((rd_T51 ((rd_T49 l0_3 x12_1).f0) x19_2).f5)] 51 (0, 0)) (by (with_reducible repeat (first | refine blk_drewN ?_ _ | refine blk_drew ?_ | refine blk_alloc ?_ _)); exact BK117.out)) : gb118 ≠ gb117)); clear HO_3; clear BK113; clear BK115; clear BK117; clear HB; have HO_3 := n0_; have BK113 := n1_; have BK115 := n2_; have BK117 := n3_; have HB := n4_; have BK118 := n5_; have GW118 := n6_; have GE118 := n7_; have NB113_118 := n8_; have NB118_113 := n9_; have NB115_118 := n10_; have NB118_115 := n11_; have NB117_118 := n12_; have NB118_117 := n13_; clear n0_ n1_ n2_ n3_ n4_ n5_ n6_ n7_ n8_ n9_ n10_ n11_ n12_ n13_; clear hb hbox hg; have hnb39 := NB118_113.out; have hnc39 := NB113_118.out; have hnb40 := NB118_115.out; have hnc40 := NB115_118.out; have hnb41 := NB118_117.out; have hnc41 := NB117_118.out; have hcz42_0 : w38.cell? ⟨gb118, 0, none⟩ = some (.string (⟨#[]⟩ : ByteArray)) := (blk_cell BK118.out 0).trans rfl; have hcz42_1 : w38.cell? ⟨gb118, 1, none⟩ = some (.int .i64 0) := (blk_cell BK118.out 1).trans rfl; have hfz42_0 := blk_frozen BK118.out 0; have hfz42_1 := blk_frozen BK118.out 1; obtain ⟨Ao43, co43, eo43⟩ := Kd.R_slice HO_3.out; subst eo43) | ((with_reducible refine gate_callee (f := 45) rfl ?_); refine goesL_ (some 35) rfl rfl Try.func45 (by kernel_rfl) rfl #[.slice Ao43 x3_2.length co43, .agg #[.string ((rd_T51 ((rd_T49 l0_3 x12_1).f0) x19_2).f5), .int .i64 1]] rfl (by (try simp only [List.map_toArray, List.map_cons, List.map_nil]); first | done | rfl | (simp only [List.length_drop, List.length_take]; rfl)) ?_; (with_reducible refine (api_Array_45.calls kj12 _ _ x3_2 ((rd_T51 ((rd_T49 l0_3 x12_1).f0) x19_2).f5) 1 false _ ?side1 ?side2 A22.out).mono ?_); (case side1 => refine (Kd.R_reads' (e := 44) (base := w.heap.size) (ok := fun k_ => (True ∧ k_ ≠ gb118)) (n := x3_2.length) (c := co43) ?_).2.2; exact (by (with_reducible repeat (first | apply Kd.R_alloc | apply Kd.R_drewN | apply Kd.R_drew)); exact (Kd.R_mono (Kd.R_far (p := ⟨gb118, 1, none⟩) (Kd.R_far (p := ⟨gb118, 0, none⟩) (Kd.R_mono HO_3.out (fun k_ hk => (⟨hk, hk.2⟩ : _ ∧ k_ ≠ gb118))) (fun _ hk => hk.2) (.string ((rd_T51 ((rd_T49 l0_3 x12_1).f0) x19_2).f5))) (fun _ hk => hk.2) (.int .i64 1)) (fun _ h_ => h_.1)))); (case side2 => exact (Kd.R_reads' HO_3.out).2.1); rintro e w44 ⟨rfl, hb⟩; refine ⟨_, rfl, ?_⟩; have n0_ := Aside0.mk (Kd.R_below (by (with_reducible repeat (first | apply Kd.R_alloc | apply Kd.R_drewN | apply Kd.R_drew)); exact (Kd.R_mono (Kd.R_far (p := ⟨gb118, 1, none⟩) (Kd.R_far (p := ⟨gb118, 0, none⟩) (Kd.R_mono HO_3.out (fun k_ hk => (⟨hk, hk.2⟩ : _ ∧ k_ ≠ gb118))) (fun _ hk => hk.2) (.string ((rd_T51 ((rd_T49 l0_3 x12_1).f0) x19_2).f5))) (fun _ hk => hk.2) (.int .i64 1)) (fun _ h_ => h_.1))) hb); have n1_ := Aside0.mk (blk_below (g := gb113) (o := .cells #[.string a0_0, .int .i64 a0_1, .slice A0_2 l0_2.length c0_2, .slice (some ad114) l0_3.length c0_3] 25 (0, 0)) (by (with_reducible repeat (first | refine blk_drewN ?_ _ | refine blk_drew ?_ | refine blk_alloc ?_ _)); refine blk_far ?_ NB113_118.out _; (with_reducible repeat (first | refine blk_drewN ?_ _ | refine blk_drew ?_ | refine blk_alloc ?_ _)); refine blk_far ?_ NB113_118.out _; (with_reducible repeat (first | refine blk_drewN ?_ _ | refine blk_drew ?_ | refine blk_alloc ?_ _)); exact BK113.out) hb); have n2_ := Aside0.mk (blk_below (g := gb115) (o := .cells #[.slice (some ad116) ((rd_T49 l0_3 x12_1).f0).length c114_0, .int .u8 ((rd_T49 l0_3 x12_1).f1), .int .i64 ((rd_T49 l0_3 x12_1).f2), .int .i64 ((rd_T49 l0_3 x12_1).f3), .int .i64 ((rd_T49 l0_3 x12_1).f4)] 49 (0, 0)) (by (with_reducible repeat (first | refine blk_drewN ?_ _ | refine blk_drew ?_ | refine blk_alloc ?_ _)); refine blk_far ?_ NB115_118.out _; (with_reducible repeat (first | refine blk_drewN ?_ _ | refine blk_drew ?_ | refine blk_alloc ?_ _)); refine blk_far ?_ NB115_118.out _; (with_reducible repeat (first | refine blk_drewN ?_ _ | refine blk_drew ?_ | refine blk_alloc ?_ _)); exact BK115.out) hb); have n3_ := Aside0.mk (blk_below (g := gb117) (o := .cells #[.int .u8 ((rd_T51 ((rd_T49 l0_3 x12_1).f0) x19_2).f0), .int .i64 ((rd_T51 ((rd_T49 l0_3 x12_1).f0) x19_2).f1), .int .i64 ((rd_T51 ((rd_T49 l0_3 x12_1).f0) x19_2).f2), .int .i64 ((rd_T51 ((rd_T49 l0_3 x12_1).f0) x19_2).f3), .int .i64 ((rd_T51 ((rd_T49 l0_3 x12_1).f0) x19_2).f4), .string ((rd_T51 ((rd_T49 l0_3 x12_1).f0) x19_2).f5)] 51 (0, 0)) (by (with_reducible repeat (first | refine blk_drewN ?_ _ | refine blk_drew ?_ | refine blk_alloc ?_ _)); refine blk_far ?_ NB117_118.out _; (with_reducible repeat (first | refine blk_drewN ?_ _ | refine blk_drew ?_ | refine blk_alloc ?_ _)); refine blk_far ?_ NB117_118.out _; (with_reducible repeat (first | refine blk_drewN ?_ _ | refine blk_drew ?_ | refine blk_alloc ?_ _)); exact BK117.out) hb); have n4_ := Aside0.mk (blk_below (g := gb118) (o := .cells #[.string ((rd_T51 ((rd_T49 l0_3 x12_1).f0) x19_2).f5), .int .i64 1] 44 (0, 0)) (by (with_reducible repeat (first | refine blk_drewN ?_ _ | refine blk_drew ?_ | refine blk_alloc ?_ _)); refine blk_put (cs := #[.string ((rd_T51 ((rd_T49 l0_3 x12_1).f0) x19_2).f5), .int .i64 0]) ?_ 1 _ rfl; (with_reducible repeat (first | refine blk_drewN ?_ _ | refine blk_drew ?_ | refine blk_alloc ?_ _)); refine blk_put (cs := #[.string (⟨#[]⟩ : ByteArray), .int .i64 0]) ?_ 0 _ rfl; (with_reducible repeat (first | refine blk_drewN ?_ _ | refine blk_drew ?_ | refine blk_alloc ?_ _)); exact BK118.out) hb); have n5_ := Aside0.mk (below_step (by repeat (first | (with_reducible first | exact HB.out | apply below_alloc | apply pw_below_drewN | apply below_drew1 | refine below_set ?_ GE113.out | refine below_set ?_ GE115.out | refine below_set ?_ GE117.out | refine below_set ?_ GE118.out) | exact HB.out)) hb); clear HO_3; clear BK113; clear BK115; clear BK117; clear BK118; clear HB; have HO_3 := n0_; have BK113 := n1_; have BK115 := n2_; have BK117 := n3_; have BK118 := n4_; have HB := n5_; clear n0_ n1_ n2_ n3_ n4_ n5_; (try clear hb); (try clear hb2); (try clear hk); (try clear hi); have hcz45_0 : w44.cell? ⟨gb118, 0, none⟩ = some (.string ((rd_T51 ((rd_T49 l0_3 x12_1).f0) x19_2).f5)) := (blk_cell BK118.out 0).trans rfl; have hcz45_1 : w44.cell? ⟨gb118, 1, none⟩ = some (.int .i64 1) := (blk_cell BK118.out 1).trans rfl; have hfz45_0 := blk_frozen BK118.out 0; have hfz45_1 := blk_frozen BK118.out 1) | ((with_reducible refine gate_builtin (b := .append) (xs := #[.tmp 37, .tmp 39]) rfl ?_); at_builtin; refine Kd.R_append k44 (w0 := w) w.heap.size rfl (.tmp 37) (.tmp 39) 22 44 (.agg #[(.string ⟨#[]⟩), (.int .i64 0)]) 24 rfl Try.underlying22 info44 rfl (by decide) (by omega) (.slice Ao43 x3_2.length co43) x3_2 (⟨((rd_T51 ((rd_T49 l0_3 x12_1).f0) x19_2).f5), 1⟩ : S44) [.string ((rd_T51 ((rd_T49 l0_3 x12_1).f0) x19_2).f5), .int .i64 1] (fun k_ => k_ ≠ gb118) (fun _ => False) rfl rfl ?aP (fun _ hk => hk.elim) ?aF ?aO ?aB ?aS ?aL ?_; (case aP => exact k44_mkM _ _ _ (⟨((rd_T51 ((rd_T49 l0_3 x12_1).f0) x19_2).f5), 1⟩ : S44)); (case aB => exact (by repeat (first | (with_reducible first | exact HB.out | apply below_alloc | apply pw_below_drewN | apply below_drew1 | refine below_set ?_ GE113.out | refine below_set ?_ GE115.out | refine below_set ?_ GE117.out | refine below_set ?_ GE118.out) | exact HB.out))); (case aF => exact (fun k_ hk => Kd.freshB (g := gb118) (o := .cells #[.string ((rd_T51 ((rd_T49 l0_3 x12_1).f0) x19_2).f5), .int .i64 1] 44 (0, 0)) (by (with_reducible repeat (first | refine blk_drewN ?_ _ | refine blk_drew ?_ | refine blk_alloc ?_ _)); exact BK118.out) k_ hk)); (case aO => exact (by (with_reducible repeat (first | apply Kd.R_alloc | apply Kd.R_drewN | apply Kd.R_drew)); exact Kd.R_mono HO_3.out (fun _ hk => hk.2))); (case aS => exact (below_size (by repeat (first | (with_reducible first | exact HB.out | apply below_alloc | apply pw_below_drewN | apply below_drew1 | refine below_set ?_ GE113.out | refine below_set ?_ GE115.out | refine below_set ?_ GE117.out | refine below_set ?_ GE118.out) | exact HB.out)))); (case aL => have := LMc34.out; omega); intro v121 w46 ho hb hg hat; rw [← Ny120.out] at ho; have n0_ := Aside0.mk (blk_grown (g := gb113) (o := .cells #[.string a0_0, .int .i64 a0_1, .slice A0_2 l0_2.length c0_2, .slice (some ad114) l0_3.length c0_3] 25 (0, 0)) (by (with_reducible repeat (first | refine blk_drewN ?_ _ | refine blk_drew ?_ | refine blk_alloc ?_ _)); exact BK113.out) hg (Kd.R_ne HO_3.out BK113.out (by decide))); have n1_ := Aside0.mk (blk_grown (g := gb115) (o := .cells #[.slice (some ad116) ((rd_T49 l0_3 x12_1).f0).length c114_0, .int .u8 ((rd_T49 l0_3 x12_1).f1), .int .i64 ((rd_T49 l0_3 x12_1).f2), .int .i64 ((rd_T49 l0_3 x12_1).f3), .int .i64 ((rd_T49 l0_3 x12_1).f4)] 49 (0, 0)) (by (with_reducible repeat (first | refine blk_drewN ?_ _ | refine blk_drew ?_ | refine blk_alloc ?_ _)); exact BK115.out) hg (Kd.R_ne HO_3.out BK115.out (by decide))); have n2_ := Aside0.mk (blk_grown (g := gb117) (o := .cells #[.int .u8 ((rd_T51 ((rd_T49 l0_3 x12_1).f0) x19_2).f0), .int .i64 ((rd_T51 ((rd_T49 l0_3 x12_1).f0) x19_2).f1), .int .i64 ((rd_T51 ((rd_T49 l0_3 x12_1).f0) x19_2).f2), .int .i64 ((rd_T51 ((rd_T49 l0_3 x12_1).f0) x19_2).f3), .int .i64 ((rd_T51 ((rd_T49 l0_3 x12_1).f0) x19_2).f4), .string ((rd_T51 ((rd_T49 l0_3 x12_1).f0) x19_2).f5)] 51 (0, 0)) (by (with_reducible repeat (first | refine blk_drewN ?_ _ | refine blk_drew ?_ | refine blk_alloc ?_ _)); exact BK117.out) hg (Kd.R_ne HO_3.out BK117.out (by decide))); have n3_ := Aside0.mk (blk_grown (g := gb118) (o := .cells #[.string ((rd_T51 ((rd_T49 l0_3 x12_1).f0) x19_2).f5), .int .i64 1] 44 (0, 0)) (by (with_reducible repeat (first | refine blk_drewN ?_ _ | refine blk_drew ?_ | refine blk_alloc ?_ _)); exact BK118.out) hg (Kd.R_away HO_3.out (fun _ hk => hk.2))); have n4_ := Aside0.mk (hb); have n5_ := Aside0.mk (ho); clear BK113; clear BK115; clear BK117; clear BK118; clear HB; clear HO_3; have BK113 := n0_; have BK115 := n1_; have BK117 := n2_; have BK118 := n3_; have HB := n4_; have HO122 := n5_; clear n0_ n1_ n2_ n3_ n4_ n5_; clear ho hb hg hat))
                                go_roundg kj12
                                case measure => have := HK1.out; have := HK2.out; have := HJ12.out; omega
                                case rel => exact ⟨(y120), (wrap64 (x19_2 + 1)), (by first | rfl | (simp; done) | (simp [*]; done)), H', ⟨by have := HK1.out; have := HK2.out; have := HJ12.out; omega⟩, ⟨by (with_reducible repeat (first | apply Kd.R_alloc | apply Kd.R_drewN | apply Kd.R_drew)); exact Kd.R_mono HO122.out (fun _ hk => trivial)⟩, ⟨by (with_reducible repeat (first | refine blk_drewN ?_ _ | refine blk_drew ?_ | refine blk_alloc ?_ _)); exact BK113.out⟩, ⟨by (with_reducible repeat (first | refine blk_drewN ?_ _ | refine blk_drew ?_ | refine blk_alloc ?_ _)); exact BK115.out⟩, ⟨by repeat (first | (with_reducible first | exact HB.out | apply below_alloc | apply pw_below_drewN | apply below_drew1 | refine below_set ?_ GE113.out | refine below_set ?_ GE115.out | refine below_set ?_ GE117.out | refine below_set ?_ GE118.out) | exact HB.out)⟩⟩
                              · rw [if_neg c34] at H
                                exact absurd H (by simp)
                          · replace c21 := Bool.eq_false_iff.mpr c21
                            subst c21
                            have H1 : (codegen_mentioned.l1 kj12 x3_2 l0_3 (l0_3.length : Int) x12_1 ((rd_T49 l0_3 x12_1).f0) (((rd_T49 l0_3 x12_1).f0).length : Int) (wrap64 (x19_2 + 1))) = some r := by rw [if_neg (show ¬ (false = true) by decide)] at H; exact H
                            clear H
                            have H := H1
                            clear H1
                            have H' := Aside0.mk H
                            clear H
                            go_wp2
                            go_roundg kj12
                            case measure => have := HK1.out; have := HK2.out; have := HJ12.out; omega
                            case rel => exact ⟨(x3_2), (wrap64 (x19_2 + 1)), (by first | rfl | (simp; done) | (simp [*]; done)), H', ⟨by have := HK1.out; have := HK2.out; have := HJ12.out; omega⟩, ⟨by (with_reducible repeat (first | apply Kd.R_alloc | apply Kd.R_drewN | apply Kd.R_drew)); exact HO_3.out⟩, ⟨by (with_reducible repeat (first | refine blk_drewN ?_ _ | refine blk_drew ?_ | refine blk_alloc ?_ _)); exact BK113.out⟩, ⟨by (with_reducible repeat (first | refine blk_drewN ?_ _ | refine blk_drew ?_ | refine blk_alloc ?_ _)); exact BK115.out⟩, ⟨by repeat (first | (with_reducible first | exact HB.out | apply below_alloc | apply pw_below_drewN | apply below_drew1 | refine below_set ?_ GE113.out | refine below_set ?_ GE115.out | refine below_set ?_ GE117.out) | exact HB.out)⟩⟩
                    · rw [if_neg c12] at H
                      exact absurd H (by simp)
                  · rw [if_neg c11] at H
                    exact absurd H (by simp)
                · rw [if_neg c10] at H
                  have c10b0 : decide (x19_2 < (((rd_T49 l0_3 x12_1).f0).length : Int)) = false := decide_eq_false c10
                  clear c10
                  have H' := Aside0.mk H
                  clear H
                  go_wp2
                  go_roundg k2
                  case measure => have := HK1.out; have := HK2.out; omega
                  case rel => exact ⟨(x3_2), (wrap64 (x12_1 + 1)), (by first | rfl | (simp; done) | (simp [*]; done)), H', ⟨by have := HK1.out; have := HK2.out; omega⟩, ⟨by (with_reducible repeat (first | apply Kd.R_alloc | apply Kd.R_drewN | apply Kd.R_drew)); exact HO_3.out⟩, ⟨by (with_reducible repeat (first | refine blk_drewN ?_ _ | refine blk_drew ?_ | refine blk_alloc ?_ _)); exact BK113.out⟩, ⟨by repeat (first | (with_reducible first | exact HB.out | apply below_alloc | apply pw_below_drewN | apply below_drew1 | refine below_set ?_ GE113.out | refine below_set ?_ GE115.out) | exact HB.out)⟩⟩
          · rw [if_neg c6] at H
            exact absurd H (by simp)
        · rw [if_neg c5] at H
          exact absurd H (by simp)
      · rw [if_neg c4] at H
        have c4b0 : decide (x12_1 < (l0_3.length : Int)) = false := decide_eq_false c4
        clear c4
        obtain rfl := Option.some.inj H
        go_wp2
        go_ret
        exact ⟨_, by first | rfl | (simp [errW_none, errW_some] <;> rfl) | (simp [*, errW_none, errW_some] <;> rfl), by (with_reducible repeat (first | apply Kd.R_alloc | apply Kd.R_drewN | apply Kd.R_drew)); exact HO_3.out, by repeat (first | (with_reducible first | exact HB.out | apply below_alloc | apply pw_below_drewN | apply below_drew1 | refine below_set ?_ GE113.out) | exact HB.out)⟩
end Go.Proofs.Ytadaopfcgpfiiaa.PCg
