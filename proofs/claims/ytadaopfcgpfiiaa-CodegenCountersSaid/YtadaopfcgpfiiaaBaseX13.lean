/- Lemmas: what the theorem of the claim's last text needs, joined by a program out of the seat's texts PCgx7. -/
import Derived.Test.YtadaopfcgpfiiaaBaseX12
namespace Go.Proofs.Ytadaopfcgpfiiaa.PCg
open Go.RowKit Go.Proofs.YtadaopfcgpfiiaaW.PrintWords Go.Proofs.YtadaopfcgpfiiaaW.PrintLast Go.Proofs.YtadaopfcgpfiiaaW.PrintMore
attribute [local go_sem] max2_int min2_int max_two min_two max_three min_three max_four min_four   -- for this text's walks alone
set_option linter.unusedVariables false
set_option linter.unusedSimpArgs false
def slices_Reverse_int_int.l0 : Nat → List Int → Int → Int → Option (List Int)
  | 0, _, _, _ => none
  | k + 1, x0, x2, x3 => if x2 < x3 then (if 0 ≤ x3 then (if x3 < (x0.length : Int) then (if 0 ≤ x2 then (if x2 < (x0.length : Int) then (slices_Reverse_int_int.l0 k ((x0.set (x2 : Int).toNat (rd x0 x3)).set (x3 : Int).toNat (rd x0 x2)) (wrap64 (x2 + 1)) (wrap64 (x3 - 1))) else (none)) else (none)) else (none)) else (none)) else (some x0)
def slices_Reverse_int_int.f (k : Nat) (l0 : List Int) : Option (List Int) := slices_Reverse_int_int.l0 k l0 0 (wrap64 ((l0.length : Int) - 1))
def slices_Reverse_int_int.T3 : Bool × List (List Nat × List Nat) := (true, [([], []), ([], []), ([], []), ([], []), ([], []), ([], []), ([4, 5], [4, 5]), ([6], [6]), ([], []), ([], []), ([8, 9], [8, 9]), ([10], [10]), ([0, 1, 0, 1, 4, 5, 6, 7, 11], [0, 1]), ([12, 7, 0, 1, 4, 5, 6, 7, 11], [7, 12]), ([2, 3, 0, 1, 2, 3, 4, 5, 6, 7, 8, 9, 10, 11, 12, 13], [2, 3]), ([14, 11, 13, 0, 1, 2, 3, 4, 5, 6, 7, 8, 9, 10, 11, 12, 13], [11, 14])])
def slices_Reverse_int_int.B3 : List Nat := [0, 0, 0, 0, 0, 0, 48, 112, 0, 0, 768, 1792, 4083, 8179, 16383, 32767]
theorem slices_Reverse_int_int.tab3 : rtab .any (opsOf Try.f74 3) = slices_Reverse_int_int.T3 := by kernel_rfl
theorem slices_Reverse_int_int.bits3 : waitsOk slices_Reverse_int_int.T3.2 slices_Reverse_int_int.B3 = true := by kernel_rfl
set_option maxHeartbeats 8000000 in
set_option maxRecDepth 100000 in
theorem slices_Reverse_int_int.calls (k : Nat) (P0_ : Nat → Prop) (u9000_ : Value) (l0 : List Int) (r : List Int) (w0 w : World) (hB : Below w0.heap.size w0 w) (ho0 : Kd.R (Kd.int .i64) 3 w w0.heap.size P0_ u9000_ l0) (h : slices_Reverse_int_int.f k l0 = some r) :
    Calls Try.prog 74 #[u9000_] w fun e w' => e = .returned (.tuple #[]) ∧ Kd.R (Kd.int .i64) 3 w' w0.heap.size (fun k_ => (P0_ k_ ∨ w.heap.size ≤ k_)) u9000_ r ∧ Below w0.heap.size w0 w' ∧ Kept w w' (fun k_ => P0_ k_) := by
  have HO0 := Aside0.mk (show Kd.R (Kd.int .i64) 3 w w0.heap.size (fun k_ => (P0_ k_ ∨ w.heap.size ≤ k_)) u9000_ l0 from Kd.R_mono ho0 (fun k_ hk => (.inl hk)))
  have HK := Aside0.mk (Kept.refl w (fun k_ => P0_ k_))
  have HW0 := Aside0.mk hB.size
  have HB := Aside0.mk hB
  clear hB
  have H : (slices_Reverse_int_int.l0 k l0 0 (wrap64 ((l0.length : Int) - 1))) = some r := h
  clear h
  have H' := Aside0.mk H
  clear H
  obtain ⟨Ao2, co2, eo2⟩ := Kd.R_slice HO0.out
  subst eo2
  go_enter Try.func74, Try.ntmps74
  go_wp2
  go_loopg [2, 3] k (fun kq v2 v3 w' => ∃ (x0_1 : List Int) (x2_1 : Int) (x3_1 : Int), v2 = .int .i64 x2_1 ∧ v3 = .int .i64 x3_1 ∧ Aside0 (slices_Reverse_int_int.l0 kq x0_1 x2_1 x3_1 = some r) ∧ Aside0 (kq ≤ k) ∧ Aside0 (Kd.R (Kd.int .i64) 3 w' w0.heap.size (fun k_ => (P0_ k_ ∨ w.heap.size ≤ k_)) (.slice Ao2 l0.length co2) x0_1) ∧ Aside0 (Kept w w' (fun k_ => P0_ k_)) ∧ Aside0 (Below w0.heap.size w0 w'))
  case atStart => exact ⟨(l0), (0), (wrap64 ((l0.length : Int) - 1)), (by first | rfl | (simp; done) | (simp [*]; done)), (by first | rfl | (simp; done) | (simp [*]; done)), H', ⟨Nat.le_refl _⟩, ⟨by (with_reducible repeat (first | apply Kd.R_alloc | apply Kd.R_drewN | apply Kd.R_drew)); exact HO0.out⟩, ⟨by repeat (first | (with_reducible first | exact HK.out | apply Kept.alloc | apply Kept.drewN | apply Kept.drew) | exact HK.out)⟩, ⟨by repeat (first | (with_reducible first | exact HB.out | apply below_alloc | apply pw_below_drewN | apply below_drew1) | exact HB.out)⟩⟩
  case round =>
    clear H'
    try clear p2
    obtain ⟨x0_1, x2_1, x3_1, rfl, rfl, HA, HK1, HO_0, HK, HB⟩ := hrel
    have hl0_1 := (Kd.R_reads' HO_0.out).1
    rw [hl0_1] at HO_0
    (try simp only [hl0_1])
    cases gk with
    | zero => exact absurd HA.out (by simp [slices_Reverse_int_int.l0])
    | succ k1 =>
      have H := HA.out
      clear HA
      simp only [slices_Reverse_int_int.l0] at H
      by_cases c3 : x2_1 < x3_1
      · rw [if_pos c3] at H
        have c3b0 : decide (x2_1 < x3_1) = true := decide_eq_true c3
        clear c3
        by_cases c4 : 0 ≤ x3_1
        · rw [if_pos c4] at H
          have c4b0 : decide (0 ≤ x3_1) = true := decide_eq_true c4
          clear c4
          by_cases c5 : x3_1 < (x0_1.length : Int)
          · rw [if_pos c5] at H
            have c5b0 : decide (x3_1 < (x0_1.length : Int)) = true := decide_eq_true c5
            clear c5
            by_cases c6 : 0 ≤ x2_1
            · rw [if_pos c6] at H
              have c6b0 : decide (0 ≤ x2_1) = true := decide_eq_true c6
              clear c6
              by_cases c7 : x2_1 < (x0_1.length : Int)
              · rw [if_pos c7] at H
                have c7b0 : decide (x2_1 < (x0_1.length : Int)) = true := decide_eq_true c7
                clear c7
                obtain ⟨y223, hy223⟩ : ∃ y_ : List Int, y_ = (x0_1.set (x2_1 : Int).toNat (rd x0_1 x3_1)) := ⟨_, rfl⟩
                replace H : (slices_Reverse_int_int.l0 k1 (y223.set (x3_1 : Int).toNat (rd x0_1 x2_1)) (wrap64 (x2_1 + 1)) (wrap64 (x3_1 - 1))) = some r := by first | (rw [hy223]; with_reducible exact H) | (have H2_ := (Option.bind_some _ _).symm.trans H; rw [hy223]; with_reducible exact H2_) | (have H2_ := (Option.bind_some _ _).symm.trans H; with_reducible exact H2_) | with_reducible exact H | (rw [hy223]; exact H) | exact H
                have Ny223 := Aside0.mk hy223
                clear hy223
                obtain ⟨y224, hy224⟩ : ∃ y_ : List Int, y_ = (y223.set (x3_1 : Int).toNat (rd x0_1 x2_1)) := ⟨_, rfl⟩
                replace H : (slices_Reverse_int_int.l0 k1 y224 (wrap64 (x2_1 + 1)) (wrap64 (x3_1 - 1))) = some r := by first | (rw [hy224]; with_reducible exact H) | (have H2_ := (Option.bind_some _ _).symm.trans H; rw [hy224]; with_reducible exact H2_) | (have H2_ := (Option.bind_some _ _).symm.trans H; with_reducible exact H2_) | with_reducible exact H | (rw [hy224]; exact H) | exact H
                have Ny224 := Aside0.mk hy224
                clear hy224
                have H' := Aside0.mk H
                clear H
                try go_wp2
                have n0_ := Aside0.mk (Kd.R_drew HO_0.out)
                have n1_ := Aside0.mk (Kept.drew HK.out)
                have n2_ := Aside0.mk (below_drew1 HB.out)
                clear HO_0
                clear HK
                clear HB
                have HO_0 := n0_
                have HK := n1_
                have HB := n2_
                clear n0_ n1_ n2_
                have p221 : 0 ≤ (x3_1 : Int) := of_decide_eq_true (by first | (with_reducible assumption) | assumption)
                have q221 : x3_1 < (x0_1.length : Int) := of_decide_eq_true (by first | (with_reducible assumption) | assumption)
                obtain ⟨ad221, e221, hx221_0⟩ := Kd.at_int (Kd.R_reads' HO_0.out).2.2 x3_1 p221 q221
                cases e221
                replace p221 := eq_true p221
                replace q221 := eq_true q221
                have p222 : 0 ≤ (x2_1 : Int) := of_decide_eq_true (by first | (with_reducible assumption) | assumption)
                have q222 : x2_1 < (x0_1.length : Int) := of_decide_eq_true (by first | (with_reducible assumption) | assumption)
                obtain ⟨ad222, e222, hx222_0⟩ := Kd.at_int (Kd.R_reads' HO_0.out).2.2 x2_1 p222 q222
                obtain rfl : ad221 = ad222 := (by injection e222)
                replace p222 := eq_true p222
                replace q222 := eq_true q222
                have p8 : 0 ≤ (x2_1 : Int) := of_decide_eq_true (by first | (with_reducible assumption) | assumption)
                have q8 : (x2_1 : Int) < ((x0_1.length : Int) : Int) := of_decide_eq_true (by first | (with_reducible assumption) | assumption)
                obtain ⟨go8, co8, eo8, gb8, gl8, cl8, HG8⟩ := Kd.R_form HO_0.out (by omega)
                (first | cases eo8 | (injection eo8 with ea_ en_ ec_; (first | subst ea_ | (injection ea_ with ea_; subst ea_)); subst ec_; clear en_))
                have GB8 := Aside0.mk gb8
                have GG8 := Aside0.mk HG8
                clear gb8 gl8 HG8
                have HMgo8 := Aside0.mk (show (P0_ go8 ∨ w.heap.size ≤ go8) from (HO_0.out.1 _ rfl))
                (first | simp only [add_plain] at hx221_0 | skip)
                (first | simp only [add_plain] at hx222_0 | skip)
                obtain ⟨hx8_0, hf8_0⟩ := Kd.R_celln 0 HO_0.out (x2_1 : Int) p8 q8
                replace p8 := eq_true p8
                replace q8 := eq_true q8
                have HP11 := Kd.R_putn HO_0.out (x2_1 : Int) (rd x0_1 x3_1)
                rw [← Ny223.out] at HP11
                have HQ11 := Aside0.mk HP11
                clear HP11
                have p9 : 0 ≤ (x3_1 : Int) := of_decide_eq_true (by first | (with_reducible assumption) | assumption)
                have q9 : (x3_1 : Int) < ((x0_1.length : Int) : Int) := of_decide_eq_true (by first | (with_reducible assumption) | assumption)
                obtain ⟨hx9_0, hf9_0⟩ := Kd.R_celln 0 HQ11.out (x3_1 : Int) p9 q9
                replace p9 := eq_true p9
                replace q9 := eq_true q9
                have HP12 := Kd.R_putn HQ11.out (x3_1 : Int) (rd x0_1 x2_1)
                rw [← Ny224.out] at HP12
                have HQ12 := Aside0.mk HP12
                clear HP12
                refine start_ (n := 16) (S := fun w' => w'.cell? ⟨go8, (x3_1).toNat, none⟩ = some (.int .i64 (rd x0_1 x3_1)) ∧ w'.cell? ⟨go8, (x2_1).toNat, none⟩ = some (.int .i64 (rd x0_1 x2_1))) (ds := [13, 15]) #[false, false, false, false, false, false, false, false, false, false, false, false, false, false, false, false] (by kernel_rfl) rfl rfl ⟨hx221_0, hx222_0⟩ (fun hHeld => ?_); refine with_tabW slices_Reverse_int_int.tab3 slices_Reverse_int_int.bits3 (fun HT_ HW_ => ?_)
                generalize wr.drew = w10 at HO_0 HK HB GG8 HQ11 HQ12 hf8_0 hf9_0 hx221_0 hx222_0 hx8_0 hx9_0 hHeld ⊢
                refine pure_ (i := 0) (N := some 14) (v := ?_) (a' := ?_) #[true, false, false, false, false, false, false, false, false, false, false, false, false, false, false, false] rfl rfl (any_of HT_.out (by kernel_rfl)) (fun _ _ _ h => h) (Or.inl ⟨by rfl, ?_⟩) ?_ ?_
                rotate_left
                · intro w'
                  go_simp
                  with_reducible rfl
                rotate_left
                · simp only [Act.put, List.setIfInBounds_toArray, List.set_cons_zero, List.set_cons_succ, i64_w, i32_w]
                  rfl
                refine pure_ (i := 1) (N := some 15) (v := ?_) (a' := ?_) #[true, true, false, false, false, false, false, false, false, false, false, false, false, false, false, false] rfl rfl (any_of HT_.out (by kernel_rfl)) (fun _ _ _ h => h) (Or.inl ⟨by rfl, ?_⟩) ?_ ?_
                rotate_left
                · intro w'
                  go_simp
                  with_reducible rfl
                rotate_left
                · simp only [Act.put, List.setIfInBounds_toArray, List.set_cons_zero, List.set_cons_succ, i64_w, i32_w]
                  rfl
                refine pure_ (i := 2) (N := some 16) (v := ?_) (a' := ?_) #[true, true, true, false, false, false, false, false, false, false, false, false, false, false, false, false] rfl rfl (any_of HT_.out (by kernel_rfl)) (fun _ _ _ h => h) (Or.inl ⟨by rfl, ?_⟩) ?_ ?_
                rotate_left
                · intro w'
                  go_simp
                  with_reducible rfl
                rotate_left
                · simp only [Act.put, List.setIfInBounds_toArray, List.set_cons_zero, List.set_cons_succ, i64_w, i32_w]
                  rfl
                refine pure_ (i := 3) (N := some 17) (v := ?_) (a' := ?_) #[true, true, true, true, false, false, false, false, false, false, false, false, false, false, false, false] rfl rfl (any_of HT_.out (by kernel_rfl)) (fun _ _ _ h => h) (Or.inl ⟨by rfl, ?_⟩) ?_ ?_
                rotate_left
                · intro w'
                  go_simp
                  with_reducible rfl
                rotate_left
                · simp only [Act.put, List.setIfInBounds_toArray, List.set_cons_zero, List.set_cons_succ, i64_w, i32_w]
                  rfl
                refine pure_ (i := 4) (N := some 18) (v := ?_) (a' := ?_) #[true, true, true, true, true, false, false, false, false, false, false, false, false, false, false, false] rfl rfl (any_of HT_.out (by kernel_rfl)) (fun _ _ _ h => h) (Or.inl ⟨by rfl, ?_⟩) ?_ ?_
                rotate_left
                · intro w'
                  go_simp
                  with_reducible rfl
                rotate_left
                · simp only [Act.put, List.setIfInBounds_toArray, List.set_cons_zero, List.set_cons_succ, i64_w, i32_w]
                  rfl
                refine pure_ (i := 5) (N := some 19) (v := ?_) (a' := ?_) #[true, true, true, true, true, true, false, false, false, false, false, false, false, false, false, false] rfl rfl (any_of HT_.out (by kernel_rfl)) (fun _ _ _ h => h) (Or.inl ⟨by rfl, ?_⟩) ?_ ?_
                rotate_left
                · intro w'
                  go_simp
                  with_reducible rfl
                rotate_left
                · simp only [Act.put, List.setIfInBounds_toArray, List.set_cons_zero, List.set_cons_succ, i64_w, i32_w]
                  rfl
                refine pure_ (i := 6) (N := some 20) (v := ?_) (a' := ?_) #[true, true, true, true, true, true, true, false, false, false, false, false, false, false, false, false] rfl rfl (any_of HT_.out (by kernel_rfl)) (fun _ _ _ h => h) (Or.inl ⟨by rfl, ?_⟩) ?_ ?_
                rotate_left
                · intro w'
                  go_simp
                  with_reducible rfl
                rotate_left
                · simp only [Act.put, List.setIfInBounds_toArray, List.set_cons_zero, List.set_cons_succ, i64_w, i32_w]
                  rfl
                refine pure_ (i := 8) (N := some 22) (v := ?_) (a' := ?_) #[true, true, true, true, true, true, true, false, true, false, false, false, false, false, false, false] rfl rfl (any_of HT_.out (by kernel_rfl)) (fun _ _ _ h => h) (Or.inl ⟨by rfl, ?_⟩) ?_ ?_
                rotate_left
                · intro w'
                  go_simp
                  with_reducible rfl
                rotate_left
                · simp only [Act.put, List.setIfInBounds_toArray, List.set_cons_zero, List.set_cons_succ, i64_w, i32_w]
                  rfl
                refine pure_ (i := 9) (N := some 23) (v := ?_) (a' := ?_) #[true, true, true, true, true, true, true, false, true, true, false, false, false, false, false, false] rfl rfl (any_of HT_.out (by kernel_rfl)) (fun _ _ _ h => h) (Or.inl ⟨by rfl, ?_⟩) ?_ ?_
                rotate_left
                · intro w'
                  go_simp
                  with_reducible rfl
                rotate_left
                · simp only [Act.put, List.setIfInBounds_toArray, List.set_cons_zero, List.set_cons_succ, i64_w, i32_w]
                  rfl
                refine pure_ (i := 10) (N := some 24) (v := ?_) (a' := ?_) #[true, true, true, true, true, true, true, false, true, true, true, false, false, false, false, false] rfl rfl (any_of HT_.out (by kernel_rfl)) (fun _ _ _ h => h) (Or.inl ⟨by rfl, ?_⟩) ?_ ?_
                rotate_left
                · intro w'
                  go_simp
                  with_reducible rfl
                rotate_left
                · simp only [Act.put, List.setIfInBounds_toArray, List.set_cons_zero, List.set_cons_succ, i64_w, i32_w]
                  rfl
                refine take_ (i := 7) (N := some 21) (v := ?_) (a' := ?_) #[true, true, true, true, true, true, true, true, true, true, true, false, false, false, false, false] rfl rfl (take_ofW HT_.out HW_.out (by kernel_rfl)) (fun _ _ _ h => h) (Or.inl ⟨by rfl, ?_⟩) hHeld ?_ ?_
                rotate_left
                · rintro w' ⟨s0, s1⟩
                  go_simp
                  with_reducible rfl
                rotate_left
                · simp only [Act.put, List.setIfInBounds_toArray, List.set_cons_zero, List.set_cons_succ, i64_w, i32_w]
                  rfl
                refine take_ (i := 11) (N := some 25) (v := ?_) (a' := ?_) #[true, true, true, true, true, true, true, true, true, true, true, true, false, false, false, false] rfl rfl (take_ofW HT_.out HW_.out (by kernel_rfl)) (fun _ _ _ h => h) (Or.inl ⟨by rfl, ?_⟩) hHeld ?_ ?_
                rotate_left
                · rintro w' ⟨s0, s1⟩
                  go_simp
                  with_reducible rfl
                rotate_left
                · simp only [Act.put, List.setIfInBounds_toArray, List.set_cons_zero, List.set_cons_succ, i64_w, i32_w]
                  rfl
                refine pure_ (i := 12) (N := some 26) (v := ?_) (a' := ?_) #[true, true, true, true, true, true, true, true, true, true, true, true, true, false, false, false] rfl rfl (any_of HT_.out (by kernel_rfl)) (fun _ _ _ h => h) (Or.inl ⟨by rfl, ?_⟩) ?_ ?_
                rotate_left
                · intro w'
                  go_simp
                  with_reducible rfl
                rotate_left
                · simp only [Act.put, List.setIfInBounds_toArray, List.set_cons_zero, List.set_cons_succ, i64_w, i32_w]
                  rfl
                refine last_ (i := 13) (N := none) #[true, true, true, true, true, true, true, true, true, true, true, true, true, true, false, false] rfl rfl (one_of HT_.out (by kernel_rfl)) (by decide) (fun K hK => ?_)
                refine skip_ (w1 := ?_) (by rfl) rfl ?_ ?_
                rotate_left
                · go_simp
                  rfl
                refine hK.out _ _ ?_
                clear hK K
                refine pure_ (i := 14) (N := some 27) (v := ?_) (a' := ?_) #[true, true, true, true, true, true, true, true, true, true, true, true, true, true, true, false] rfl rfl (any_of HT_.out (by kernel_rfl)) (fun _ _ _ h => h) (Or.inl ⟨by rfl, ?_⟩) ?_ ?_
                rotate_left
                · intro w'
                  go_simp
                  with_reducible rfl
                rotate_left
                · simp only [Act.put, List.setIfInBounds_toArray, List.set_cons_zero, List.set_cons_succ, i64_w, i32_w]
                  rfl
                refine last_ (i := 15) (N := none) #[true, true, true, true, true, true, true, true, true, true, true, true, true, true, true, true] rfl rfl (one_of HT_.out (by kernel_rfl)) (by decide) (fun K hK => ?_)
                refine skip_ (w1 := ?_) (by rfl) rfl ?_ ?_
                rotate_left
                · go_simp
                  rfl
                refine hK.out _ _ ?_
                clear hK K
                refine done_ (done_of HT_.out (by kernel_rfl)) ?_
                try go_wp2
                (try simp only [← hl0_1])
                go_roundg k1
                case measure => have := HK1.out; omega
                case rel => exact ⟨(y224), (wrap64 (x2_1 + 1)), (wrap64 (x3_1 - 1)), (by first | rfl | (simp; done) | (simp [*]; done)), (by first | rfl | (simp; done) | (simp [*]; done)), H', ⟨by have := HK1.out; omega⟩, ⟨by (try simp only [hl0_1]); (with_reducible repeat (first | apply Kd.R_alloc | apply Kd.R_drewN | apply Kd.R_drew)); exact HQ12.out⟩, ⟨by repeat (first | (with_reducible first | exact HK.out | apply Kept.alloc | apply Kept.drewN | apply Kept.drew | refine Kept.setCell ?_ HMgo8.out _ | refine Kept.setCell ?_ HMgo8.out _) | exact HK.out)⟩, ⟨by repeat (first | (with_reducible first | exact HB.out | apply below_alloc | apply pw_below_drewN | apply below_drew1 | refine below_set ?_ GB8.out | refine below_set ?_ GB8.out) | exact HB.out)⟩⟩
              · rw [if_neg c7] at H
                exact absurd H (by simp)
            · rw [if_neg c6] at H
              exact absurd H (by simp)
          · rw [if_neg c5] at H
            exact absurd H (by simp)
        · rw [if_neg c4] at H
          exact absurd H (by simp)
      · rw [if_neg c3] at H
        have c3b0 : decide (x2_1 < x3_1) = false := decide_eq_false c3
        clear c3
        obtain rfl := Option.some.inj H
        go_wp2
        first | go_end0 | ((try simp only [Exit.inBlock, Exit.then]); refine bodyPost_ret (results_none rfl _ _ _) rfl ?_)
        exact ⟨by first | rfl | (simp [errW_none, errW_some] <;> rfl) | (simp [*, errW_none, errW_some] <;> rfl), (by first | exact (by (with_reducible repeat (first | apply Kd.R_alloc | apply Kd.R_drewN | apply Kd.R_drew)); exact HO_0.out) | (simp only [hl0_1]; exact (by (with_reducible repeat (first | apply Kd.R_alloc | apply Kd.R_drewN | apply Kd.R_drew)); exact HO_0.out))), by repeat (first | (with_reducible first | exact HB.out | apply below_alloc | apply pw_below_drewN | apply below_drew1) | exact HB.out), by repeat (first | (with_reducible first | exact HK.out | apply Kept.alloc | apply Kept.drewN | apply Kept.drew) | exact HK.out)⟩
def slices_Index_int_int.l0 : Nat → List Int → Int → Int → Int → Option (Int)
  | 0, _, _, _, _ => none
  | k + 1, x0, x1, x7, x8 => if x8 < x7 then (if 0 ≤ x8 then (if x8 < (x0.length : Int) then (if x1 = (rd x0 x8) then (some x8) else (slices_Index_int_int.l0 k x0 x1 x7 (wrap64 (x8 + 1)))) else (none)) else (none)) else (some (-1))
def slices_Index_int_int.f (k : Nat) (l0 : List Int) (a1 : Int) : Option (Int) := slices_Index_int_int.l0 k l0 a1 (l0.length : Int) 0
set_option maxHeartbeats 8000000 in
set_option maxRecDepth 100000 in
theorem slices_Index_int_int.calls (k : Nat) (A0 : Option Addr) (c0 : Nat) (l0 : List Int) (a1 : Int) (r : Int) (w : World) (hr0 : Kd.C (Kd.int .i64) w A0 l0.length l0) (hc0 : l0.length ≤ c0) (h : slices_Index_int_int.f k l0 a1 = some r) :
    Calls Try.prog 75 #[.slice A0 l0.length c0, .int .i64 a1] w fun e w' => e = .returned (.int .i64 r) ∧ Drawn0 w w' := by
  have HR0 := Aside0.mk hr0
  have HC0 := Aside0.mk hc0
  clear hr0 hc0
  have H : (slices_Index_int_int.l0 k l0 a1 (l0.length : Int) 0) = some r := h
  clear h
  have H' := Aside0.mk H
  clear H
  go_enter Try.func75, Try.ntmps75
  go_wp2
  go_loopg [8] k (fun kq v8 w' => ∃ (x8_1 : Int), v8 = .int .i64 x8_1 ∧ Aside0 (slices_Index_int_int.l0 kq l0 a1 (l0.length : Int) x8_1 = some r) ∧ Aside0 (kq ≤ k) ∧ Drawn0 w w')
  case atStart => exact ⟨(0), (by first | rfl | (simp; done) | (simp [*]; done)), H', ⟨Nat.le_refl _⟩, by repeat (first | exact Drawn0.refl _ | apply Drawn0.step)⟩
  case round =>
    clear H'
    try clear p2
    obtain ⟨x8_1, rfl, HA, HK1, ⟨m1, rfl⟩⟩ := hrel
    cases gk with
    | zero => exact absurd HA.out (by simp [slices_Index_int_int.l0])
    | succ k1 =>
      have H := HA.out
      clear HA
      simp only [slices_Index_int_int.l0] at H
      by_cases c3 : x8_1 < (l0.length : Int)
      · rw [if_pos c3] at H
        have c3b0 : decide (x8_1 < (l0.length : Int)) = true := decide_eq_true c3
        clear c3
        by_cases c4 : 0 ≤ x8_1
        · rw [if_pos c4] at H
          have c4b0 : decide (0 ≤ x8_1) = true := decide_eq_true c4
          clear c4
          by_cases c5 : x8_1 < (l0.length : Int)
          · rw [if_pos c5] at H
            have c5b0 : decide (x8_1 < (l0.length : Int)) = true := decide_eq_true c5
            clear c5
            by_cases c6 : a1 = (rd l0 x8_1)
            · rw [if_pos c6] at H
              have c6b0 : (a1 == (rd l0 x8_1)) = true := beq_iff_eq.mpr c6
              have c6b1 : (a1 != (rd l0 x8_1)) = false := bne_eq_false_iff_eq.mpr c6
              clear c6
              obtain rfl := Option.some.inj H
              have p225 : 0 ≤ (x8_1 : Int) := of_decide_eq_true (by first | (with_reducible assumption) | assumption)
              have q225 : x8_1 < (l0.length : Int) := of_decide_eq_true (by first | (with_reducible assumption) | assumption)
              obtain ⟨ad225, e225, hx225_0⟩ := Kd.at_int HR0.out x8_1 p225 q225
              cases e225
              replace p225 := eq_true p225
              replace q225 := eq_true q225
              go_wp2
              go_ret
              exact ⟨by first | rfl | (simp; done) | (simp [*]; done), by repeat (first | exact Drawn0.refl _ | apply Drawn0.step)⟩
            · rw [if_neg c6] at H
              have c6b0 : (a1 == (rd l0 x8_1)) = false := beq_eq_false_iff_ne.mpr c6
              have c6b1 : (a1 != (rd l0 x8_1)) = true := bne_iff_ne.mpr c6
              have H' := Aside0.mk H
              clear H
              have p225 : 0 ≤ (x8_1 : Int) := of_decide_eq_true (by first | (with_reducible assumption) | assumption)
              have q225 : x8_1 < (l0.length : Int) := of_decide_eq_true (by first | (with_reducible assumption) | assumption)
              obtain ⟨ad225, e225, hx225_0⟩ := Kd.at_int HR0.out x8_1 p225 q225
              cases e225
              replace p225 := eq_true p225
              replace q225 := eq_true q225
              go_wp2
              go_roundg k1
              case measure => have := HK1.out; omega
              case rel => exact ⟨(wrap64 (x8_1 + 1)), (by first | rfl | (simp; done) | (simp [*]; done)), H', ⟨by have := HK1.out; omega⟩, by repeat (first | exact Drawn0.refl _ | apply Drawn0.step)⟩
          · rw [if_neg c5] at H
            exact absurd H (by simp)
        · rw [if_neg c4] at H
          exact absurd H (by simp)
      · rw [if_neg c3] at H
        have c3b0 : decide (x8_1 < (l0.length : Int)) = false := decide_eq_false c3
        clear c3
        obtain rfl := Option.some.inj H
        go_wp2
        go_ret
        exact ⟨by first | rfl | (simp; done) | (simp [*]; done), by repeat (first | exact Drawn0.refl _ | apply Drawn0.step)⟩
def slices_Contains_int_int.f (k : Nat) (l0 : List Int) (a1 : Int) : Option (Bool) := (slices_Index_int_int.f k l0 a1).bind fun t226 => (some (decide (t226 ≥ 0)))
set_option maxHeartbeats 8000000 in
set_option maxRecDepth 100000 in
theorem slices_Contains_int_int.calls (k : Nat) (A0 : Option Addr) (c0 : Nat) (l0 : List Int) (a1 : Int) (r : Bool) (w : World) (hr0 : Kd.C (Kd.int .i64) w A0 l0.length l0) (hc0 : l0.length ≤ c0) (h : slices_Contains_int_int.f k l0 a1 = some r) :
    Calls Try.prog 48 #[.slice A0 l0.length c0, .int .i64 a1] w fun e w' => e = .returned (.bool r) ∧ Drawn0 w w' := by
  have HR0 := Aside0.mk hr0
  have HC0 := Aside0.mk hc0
  clear hr0 hc0
  have H : ((slices_Index_int_int.f k l0 a1).bind fun t226 => (some (decide (t226 ≥ 0)))) = some r := h
  clear h
  replace H := Option.bind_eq_some_iff.mp H
  obtain ⟨t226, A30, H⟩ := H
  replace H : (some (decide (t226 ≥ 0))) = some r := H
  have A3 := Aside0.mk A30
  clear A30
  obtain rfl := Option.some.inj H
  go_enter Try.func48, Try.ntmps48
  go_wp2_with (first | ((with_reducible refine gate_callee (f := 75) rfl ?_); refine goesL_ (some 7) rfl rfl Try.func75 (by kernel_rfl) rfl #[.slice A0 l0.length c0, .int .i64 a1] rfl (by (try simp only [List.map_toArray, List.map_cons, List.map_nil]); first | done | rfl | (simp only [List.length_drop, List.length_take]; rfl)) ?_; (with_reducible refine (slices_Index_int_int.calls k _ _ l0 a1 t226 _ ?side1 ?side2 A3.out).mono ?_); (case side1 => repeat (first | exact HR0.out | (with_reducible refine Kd.C_alloc ?_ _) | (with_reducible refine Kd.C_drewN ?_ _) | (with_reducible refine Kd.C_drew ?_))); (case side2 => exact HC0.out); rintro e w' ⟨rfl, ⟨nd, rfl⟩⟩; refine ⟨_, rfl, ?_⟩))
  go_ret
  exact ⟨by first | rfl | (simp; done) | (simp [*]; done), by repeat (first | exact Drawn0.refl _ | apply Drawn0.step)⟩
def codegen_reference.j0 : Nat → Int → Bool → Option (Bool × Bool)
  | 0, _, _ => none
  | k + 1, x4, x5 => if x5 = true then (some (true, false)) else (if x4 = 28 then (some (true, true)) else (if x4 = 29 then (some (true, true)) else (some (false, false))))
def codegen_reference.f (k : Nat) (a0 : Int) : Option (Bool × Bool) := if a0 = 20 then (codegen_reference.j0 k a0 (a0 == 20)) else (codegen_reference.j0 k a0 (a0 == 21))
set_option maxHeartbeats 8000000 in
set_option maxRecDepth 100000 in
theorem codegen_reference.calls (k : Nat) (a0 : Int) (r1 : Bool) (r2 : Bool) (w : World) (h : codegen_reference.f k a0 = some (r1, r2)) :
    Calls Try.prog 38 #[.int .u8 a0] w fun e w' => e = .returned (.tuple #[.bool r1, .bool r2]) ∧ Drawn0 w w' := by
  have H : (if a0 = 20 then (codegen_reference.j0 k a0 (a0 == 20)) else (codegen_reference.j0 k a0 (a0 == 21))) = some (r1, r2) := h
  clear h
  have HC2 := Aside0.mk H
  clear H
  go_enter Try.func38, Try.ntmps38
  go_upto_if 5 with (fail)
  go_cut [5] (fun v5 wc => ∃ (kq : Nat) (x5_1 : Bool), v5 = .bool x5_1 ∧ Aside0 (codegen_reference.j0 kq a0 x5_1 = some (r1, r2)) ∧ Aside0 (kq ≤ k) ∧ Drawn0 w wc)
  case first =>
    have H := HC2.out
    clear HC2
    by_cases c3 : a0 = 20
    · rw [if_pos c3] at H
      have c3b0 : (a0 == 20) = true := beq_iff_eq.mpr c3
      have c3b1 : (a0 != 20) = false := bne_eq_false_iff_eq.mpr c3
      clear c3
      (first | rw [c3b0] | (simp only [i64_w, i32_w]; rw [c3b0]) | skip)
      have H' := Aside0.mk H
      clear H
      go_wp2
      go_meet
      case rel => exact ⟨_, ((a0 == 20)), (by first | rfl | (simp; done) | (simp [*]; done)), H', ⟨by first | omega | exact Nat.le_refl _⟩, by repeat (first | exact Drawn0.refl _ | apply Drawn0.step)⟩
    · rw [if_neg c3] at H
      have c3b0 : (a0 == 20) = false := beq_eq_false_iff_ne.mpr c3
      have c3b1 : (a0 != 20) = true := bne_iff_ne.mpr c3
      (first | rw [c3b0] | (simp only [i64_w, i32_w]; rw [c3b0]) | skip)
      have H' := Aside0.mk H
      clear H
      go_wp2
      go_meet
      case rel => exact ⟨_, ((a0 == 21)), (by first | rfl | (simp; done) | (simp [*]; done)), H', ⟨by first | omega | exact Nat.le_refl _⟩, by repeat (first | exact Drawn0.refl _ | apply Drawn0.step)⟩
  case rest =>
    clear HC2
    try clear p2
    try clear c3
    try clear c3b0
    try clear c3b1
    obtain ⟨kq, x5_1, rfl, HA, HJ1, ⟨mc1, rfl⟩⟩ := hcut
    cases kq with
    | zero => exact absurd HA.out (by simp [codegen_reference.j0])
    | succ kj1 =>
      have H := HA.out
      clear HA
      simp only [codegen_reference.j0] at H
      by_cases c4 : x5_1 = true
      · subst c4
        have H1 : (some (true, false)) = some (r1, r2) := by rw [if_pos rfl] at H; exact H
        clear H
        have H := H1
        clear H1
        simp only [Option.some.injEq, Prod.mk.injEq] at H
        obtain ⟨rfl, rfl⟩ := H
        go_wp2
        go_ret2
        exact ⟨by first | rfl | (simp; done) | (simp [*]; done), by repeat (first | exact Drawn0.refl _ | apply Drawn0.step)⟩
      · replace c4 := Bool.eq_false_iff.mpr c4
        subst c4
        have H1 : (if a0 = 28 then (some (true, true)) else (if a0 = 29 then (some (true, true)) else (some (false, false)))) = some (r1, r2) := by rw [if_neg (show ¬ (false = true) by decide)] at H; exact H
        clear H
        have H := H1
        clear H1
        by_cases c5 : a0 = 28
        · rw [if_pos c5] at H
          have c5b0 : (a0 == 28) = true := beq_iff_eq.mpr c5
          have c5b1 : (a0 != 28) = false := bne_eq_false_iff_eq.mpr c5
          clear c5
          simp only [Option.some.injEq, Prod.mk.injEq] at H
          obtain ⟨rfl, rfl⟩ := H
          go_wp2
          go_ret2
          exact ⟨by first | rfl | (simp; done) | (simp [*]; done), by repeat (first | exact Drawn0.refl _ | apply Drawn0.step)⟩
        · rw [if_neg c5] at H
          have c5b0 : (a0 == 28) = false := beq_eq_false_iff_ne.mpr c5
          have c5b1 : (a0 != 28) = true := bne_iff_ne.mpr c5
          by_cases c6 : a0 = 29
          · rw [if_pos c6] at H
            have c6b0 : (a0 == 29) = true := beq_iff_eq.mpr c6
            have c6b1 : (a0 != 29) = false := bne_eq_false_iff_eq.mpr c6
            clear c6
            simp only [Option.some.injEq, Prod.mk.injEq] at H
            obtain ⟨rfl, rfl⟩ := H
            go_wp2
            go_ret2
            exact ⟨by first | rfl | (simp; done) | (simp [*]; done), by repeat (first | exact Drawn0.refl _ | apply Drawn0.step)⟩
          · rw [if_neg c6] at H
            have c6b0 : (a0 == 29) = false := beq_eq_false_iff_ne.mpr c6
            have c6b1 : (a0 != 29) = true := bne_iff_ne.mpr c6
            simp only [Option.some.injEq, Prod.mk.injEq] at H
            obtain ⟨rfl, rfl⟩ := H
            go_wp2
            go_ret2
            exact ⟨by first | rfl | (simp; done) | (simp [*]; done), by repeat (first | exact Drawn0.refl _ | apply Drawn0.step)⟩
def codegen_Constant.j0 : Nat → Int → Int → Bool → Option ((List (S53)))
  | 0, _, _, _ => none
  | k + 1, x0, x1, x10 => if x10 = true then (some ([] : List (S53))) else (if x1 ≥ (-131072) then (if x1 ≤ 131071 then (some (([(⟨14, x0, 0, 0, wrap64 (x1)⟩ : S53)] : List (S53)))) else (some (([(⟨14, x0, 0, 0, wrap64 (x1 / 16384)⟩ : S53), (⟨16, x0, x0, 0, 14⟩ : S53), (⟨17, x0, x0, 0, wrap64 (Go.bits .and .i32 x1 16383)⟩ : S53)] : List (S53))))) else (some (([(⟨14, x0, 0, 0, wrap64 (x1 / 16384)⟩ : S53), (⟨16, x0, x0, 0, 14⟩ : S53), (⟨17, x0, x0, 0, wrap64 (Go.bits .and .i32 x1 16383)⟩ : S53)] : List (S53)))))
def codegen_Constant.f (k : Nat) (a0 : Int) (a1 : Int) : Option ((List (S53))) := if a0 < 1 then (codegen_Constant.j0 k a0 a1 true) else (codegen_Constant.j0 k a0 a1 (decide (a0 ≥ 16)))
set_option maxHeartbeats 8000000 in
set_option maxRecDepth 100000 in
theorem codegen_Constant.calls (k : Nat) (a0 : Int) (a1 : Int) (r : List (S53)) (w : World) (h : codegen_Constant.f k a0 a1 = some r) :
    Calls Try.prog 22 #[.int .i64 a0, .int .i32 a1] w fun e w' => ∃ v0_ : Value, e = .returned (v0_) ∧ Kd.R k53 53 w' w.heap.size (fun _ => True) v0_ r ∧ Below w.heap.size w w' := by
  have hu53 := Try.underlying53
  have HB := Aside0.mk (Below.refl w.heap.size w)
  have H : (if a0 < 1 then (codegen_Constant.j0 k a0 a1 true) else (codegen_Constant.j0 k a0 a1 (decide (a0 ≥ 16)))) = some r := h
  clear h
  have HC3 := Aside0.mk H
  clear H
  go_enter Try.func22, Try.ntmps22
  go_upto_region 1 with (fail)
  go_cut [10] (fun v10 wc => ∃ (kq : Nat) (x10_2 : Bool), v10 = .bool x10_2 ∧ Aside0 (codegen_Constant.j0 kq a0 a1 x10_2 = some r) ∧ Aside0 (kq ≤ k) ∧ Aside0 (Below w.heap.size w wc))
  case first =>
    have H := HC3.out
    clear HC3
    by_cases c4 : a0 < 1
    · rw [if_pos c4] at H
      have c4b0 : decide (a0 < 1) = true := decide_eq_true c4
      clear c4
      (first | rw [c4b0] | (simp only [i64_w, i32_w]; rw [c4b0]) | skip)
      have H' := Aside0.mk H
      clear H
      go_wp2
      go_meet
      case rel => exact ⟨_, (true), (by first | rfl | (simp; done) | (simp [*]; done)), H', ⟨by first | omega | exact Nat.le_refl _⟩, ⟨by repeat (first | (with_reducible first | exact HB.out | apply below_alloc | apply pw_below_drewN | apply below_drew1) | exact HB.out)⟩⟩
    · rw [if_neg c4] at H
      have c4b0 : decide (a0 < 1) = false := decide_eq_false c4
      clear c4
      (first | rw [c4b0] | (simp only [i64_w, i32_w]; rw [c4b0]) | skip)
      have H' := Aside0.mk H
      clear H
      go_wp2
      go_meet
      case rel => exact ⟨_, (decide (a0 ≥ 16)), (by first | rfl | (simp; done) | (simp [*]; done)), H', ⟨by first | omega | exact Nat.le_refl _⟩, ⟨by repeat (first | (with_reducible first | exact HB.out | apply below_alloc | apply pw_below_drewN | apply below_drew1) | exact HB.out)⟩⟩
  case rest =>
    clear HC3
    try clear c2
    try clear p2
    try clear c4
    try clear c4b0
    obtain ⟨kq, x10_2, rfl, HA, HJ2, HB⟩ := hcut
    cases kq with
    | zero => exact absurd HA.out (by simp [codegen_Constant.j0])
    | succ kj2 =>
      have H := HA.out
      clear HA
      simp only [codegen_Constant.j0] at H
      by_cases c5 : x10_2 = true
      · subst c5
        have H1 : (some ([] : List (S53))) = some r := by rw [if_pos rfl] at H; exact H
        clear H
        have H := H1
        clear H1
        obtain rfl := Option.some.inj H
        go_wp2
        go_ret
        exact ⟨_, by first | rfl | (simp [errW_none, errW_some] <;> rfl) | (simp [*, errW_none, errW_some] <;> rfl), by first | exact Kd.R_nil _ _ _ _ _ | exact Kd.N_nil _ _ _ _ _ | exact Kd.V_nil _ _ _ _ _ | exact Kd.Q_nil _ _ _ _ _ | exact Kd.S_nil _ _ _ _ _, by repeat (first | (with_reducible first | exact HB.out | apply below_alloc | apply pw_below_drewN | apply below_drew1) | exact HB.out)⟩
      · replace c5 := Bool.eq_false_iff.mpr c5
        subst c5
        have H1 : (if a1 ≥ (-131072) then (if a1 ≤ 131071 then (some (([(⟨14, a0, 0, 0, wrap64 (a1)⟩ : S53)] : List (S53)))) else (some (([(⟨14, a0, 0, 0, wrap64 (a1 / 16384)⟩ : S53), (⟨16, a0, a0, 0, 14⟩ : S53), (⟨17, a0, a0, 0, wrap64 (Go.bits .and .i32 a1 16383)⟩ : S53)] : List (S53))))) else (some (([(⟨14, a0, 0, 0, wrap64 (a1 / 16384)⟩ : S53), (⟨16, a0, a0, 0, 14⟩ : S53), (⟨17, a0, a0, 0, wrap64 (Go.bits .and .i32 a1 16383)⟩ : S53)] : List (S53))))) = some r := by rw [if_neg (show ¬ (false = true) by decide)] at H; exact H
        clear H
        have H := H1
        clear H1
        by_cases c6 : a1 ≥ (-131072)
        · rw [if_pos c6] at H
          have c6b0 : decide ((-131072) ≤ a1) = true := decide_eq_true c6
          clear c6
          by_cases c7 : a1 ≤ 131071
          · rw [if_pos c7] at H
            have c7b0 : decide (a1 ≤ 131071) = true := decide_eq_true c7
            clear c7
            obtain ⟨y229, hy229⟩ : ∃ y_ : List (S53), y_ = (([(⟨14, a0, 0, 0, wrap64 (a1)⟩ : S53)] : List (S53))) := ⟨_, rfl⟩
            replace H : (some y229) = some r := by first | (rw [hy229]; with_reducible exact H) | (have H2_ := (Option.bind_some _ _).symm.trans H; rw [hy229]; with_reducible exact H2_) | (have H2_ := (Option.bind_some _ _).symm.trans H; with_reducible exact H2_) | with_reducible exact H | (rw [hy229]; exact H) | exact H
            have Ny229 := Aside0.mk hy229
            clear hy229
            obtain rfl := Option.some.inj H
            go_wp2_with (first | ((with_reducible refine gate_dst (N := 21) rfl ?_); refine Kd.R_lit k53 _ 53 ?hg (N := 21) ?hd (xs := ([(⟨14, a0, 0, 0, wrap64 (a1)⟩ : S53)] : List (S53))) (inner := [.int .u8 14, .int .i64 a0, .int .i64 0, .int .i64 0, .int .i64 (wrap64 (a1))]) (ok := fun _ => True) (okp := fun _ => True) ?hr ?hp (fun _ hk => hk) trivial (Below.refl _ _) (Nat.le_refl _) (by simp) ?_; (case hd => rfl); (case hg => rfl); (case hr => first | (go_simp; done) | (go_simp; rfl)); (case hp => exact (Reps.c5 (show Kd.M k53 _ _ _ (⟨14, a0, 0, 0, wrap64 (a1)⟩ : S53) [.int .u8 14, .int .i64 a0, .int .i64 0, .int .i64 0, .int .i64 (wrap64 (a1))] from (k53_mkM _ _ _ (⟨14, a0, 0, 0, wrap64 (a1)⟩ : S53) )) (Reps.none _ _))); intro v230 w8 ho9 hb hg_ hnew_; clear hg_ hnew_; (first | rw [← Ny229.out] at ho9 | (simp only [Int.reduceToNat] at ho9; rw [← Ny229.out] at ho9)); have n0_ := Aside0.mk (Kd.R_lower ho9 (below_size (by repeat (first | (with_reducible first | exact HB.out | apply below_alloc | apply pw_below_drewN | apply below_drew1) | exact HB.out)))); have n1_ := Aside0.mk (below_step (by repeat (first | (with_reducible first | exact HB.out | apply below_alloc | apply pw_below_drewN | apply below_drew1) | exact HB.out)) hb); clear HB; have HO231 := n0_; have HB := n1_; clear n0_ n1_; clear hb ho9))
            go_ret
            exact ⟨_, by first | rfl | (simp [errW_none, errW_some] <;> rfl) | (simp [*, errW_none, errW_some] <;> rfl), by (with_reducible repeat (first | apply Kd.R_alloc | apply Kd.R_drewN | apply Kd.R_drew)); exact HO231.out, by repeat (first | (with_reducible first | exact HB.out | apply below_alloc | apply pw_below_drewN | apply below_drew1) | exact HB.out)⟩
          · rw [if_neg c7] at H
            have c7b0 : decide (a1 ≤ 131071) = false := decide_eq_false c7
            clear c7
            obtain ⟨y232, hy232⟩ : ∃ y_ : List (S53), y_ = (([(⟨14, a0, 0, 0, wrap64 (a1 / 16384)⟩ : S53), (⟨16, a0, a0, 0, 14⟩ : S53), (⟨17, a0, a0, 0, wrap64 (Go.bits .and .i32 a1 16383)⟩ : S53)] : List (S53))) := ⟨_, rfl⟩
            replace H : (some y232) = some r := by first | (rw [hy232]; with_reducible exact H) | (have H2_ := (Option.bind_some _ _).symm.trans H; rw [hy232]; with_reducible exact H2_) | (have H2_ := (Option.bind_some _ _).symm.trans H; with_reducible exact H2_) | with_reducible exact H | (rw [hy232]; exact H) | exact H
            have Ny232 := Aside0.mk hy232
            clear hy232
            obtain rfl := Option.some.inj H
            go_wp2_with (first | ((with_reducible refine gate_dst (N := 36) rfl ?_); refine Kd.R_lit k53 _ 53 ?hg (N := 36) ?hd (xs := ([(⟨14, a0, 0, 0, wrap64 (a1 / 16384)⟩ : S53), (⟨16, a0, a0, 0, 14⟩ : S53), (⟨17, a0, a0, 0, wrap64 (Go.bits .and .i32 a1 16383)⟩ : S53)] : List (S53))) (inner := [.int .u8 14, .int .i64 a0, .int .i64 0, .int .i64 0, .int .i64 (wrap64 (a1 / 16384)), .int .u8 16, .int .i64 a0, .int .i64 a0, .int .i64 0, .int .i64 14, .int .u8 17, .int .i64 a0, .int .i64 a0, .int .i64 0, .int .i64 (wrap64 (Go.bits .and .i32 a1 16383))]) (ok := fun _ => True) (okp := fun _ => True) ?hr ?hp (fun _ hk => hk) trivial (Below.refl _ _) (Nat.le_refl _) (by simp) ?_; (case hd => rfl); (case hg => rfl); (case hr => first | (go_simp; done) | (go_simp; rfl)); (case hp => exact (Reps.c5 (show Kd.M k53 _ _ _ (⟨14, a0, 0, 0, wrap64 (a1 / 16384)⟩ : S53) [.int .u8 14, .int .i64 a0, .int .i64 0, .int .i64 0, .int .i64 (wrap64 (a1 / 16384))] from (k53_mkM _ _ _ (⟨14, a0, 0, 0, wrap64 (a1 / 16384)⟩ : S53) )) (Reps.c5 (show Kd.M k53 _ _ _ (⟨16, a0, a0, 0, 14⟩ : S53) [.int .u8 16, .int .i64 a0, .int .i64 a0, .int .i64 0, .int .i64 14] from (k53_mkM _ _ _ (⟨16, a0, a0, 0, 14⟩ : S53) )) (Reps.c5 (show Kd.M k53 _ _ _ (⟨17, a0, a0, 0, wrap64 (Go.bits .and .i32 a1 16383)⟩ : S53) [.int .u8 17, .int .i64 a0, .int .i64 a0, .int .i64 0, .int .i64 (wrap64 (Go.bits .and .i32 a1 16383))] from (k53_mkM _ _ _ (⟨17, a0, a0, 0, wrap64 (Go.bits .and .i32 a1 16383)⟩ : S53) )) (Reps.none _ _))))); intro v233 w10 ho11 hb hg_ hnew_; clear hg_ hnew_; (first | rw [← Ny232.out] at ho11 | (simp only [Int.reduceToNat] at ho11; rw [← Ny232.out] at ho11)); have n0_ := Aside0.mk (Kd.R_lower ho11 (below_size (by repeat (first | (with_reducible first | exact HB.out | apply below_alloc | apply pw_below_drewN | apply below_drew1) | exact HB.out)))); have n1_ := Aside0.mk (below_step (by repeat (first | (with_reducible first | exact HB.out | apply below_alloc | apply pw_below_drewN | apply below_drew1) | exact HB.out)) hb); clear HB; have HO234 := n0_; have HB := n1_; clear n0_ n1_; clear hb ho11))
            go_ret
            exact ⟨_, by first | rfl | (simp [errW_none, errW_some] <;> rfl) | (simp [*, errW_none, errW_some] <;> rfl), by (with_reducible repeat (first | apply Kd.R_alloc | apply Kd.R_drewN | apply Kd.R_drew)); exact HO234.out, by repeat (first | (with_reducible first | exact HB.out | apply below_alloc | apply pw_below_drewN | apply below_drew1) | exact HB.out)⟩
        · rw [if_neg c6] at H
          have c6b0 : decide ((-131072) ≤ a1) = false := decide_eq_false c6
          clear c6
          obtain ⟨y235, hy235⟩ : ∃ y_ : List (S53), y_ = (([(⟨14, a0, 0, 0, wrap64 (a1 / 16384)⟩ : S53), (⟨16, a0, a0, 0, 14⟩ : S53), (⟨17, a0, a0, 0, wrap64 (Go.bits .and .i32 a1 16383)⟩ : S53)] : List (S53))) := ⟨_, rfl⟩
          replace H : (some y235) = some r := by first | (rw [hy235]; with_reducible exact H) | (have H2_ := (Option.bind_some _ _).symm.trans H; rw [hy235]; with_reducible exact H2_) | (have H2_ := (Option.bind_some _ _).symm.trans H; with_reducible exact H2_) | with_reducible exact H | (rw [hy235]; exact H) | exact H
          have Ny235 := Aside0.mk hy235
          clear hy235
          obtain rfl := Option.some.inj H
          go_wp2_with (first | ((with_reducible refine gate_dst (N := 36) rfl ?_); refine Kd.R_lit k53 _ 53 ?hg (N := 36) ?hd (xs := ([(⟨14, a0, 0, 0, wrap64 (a1 / 16384)⟩ : S53), (⟨16, a0, a0, 0, 14⟩ : S53), (⟨17, a0, a0, 0, wrap64 (Go.bits .and .i32 a1 16383)⟩ : S53)] : List (S53))) (inner := [.int .u8 14, .int .i64 a0, .int .i64 0, .int .i64 0, .int .i64 (wrap64 (a1 / 16384)), .int .u8 16, .int .i64 a0, .int .i64 a0, .int .i64 0, .int .i64 14, .int .u8 17, .int .i64 a0, .int .i64 a0, .int .i64 0, .int .i64 (wrap64 (Go.bits .and .i32 a1 16383))]) (ok := fun _ => True) (okp := fun _ => True) ?hr ?hp (fun _ hk => hk) trivial (Below.refl _ _) (Nat.le_refl _) (by simp) ?_; (case hd => rfl); (case hg => rfl); (case hr => first | (go_simp; done) | (go_simp; rfl)); (case hp => exact (Reps.c5 (show Kd.M k53 _ _ _ (⟨14, a0, 0, 0, wrap64 (a1 / 16384)⟩ : S53) [.int .u8 14, .int .i64 a0, .int .i64 0, .int .i64 0, .int .i64 (wrap64 (a1 / 16384))] from (k53_mkM _ _ _ (⟨14, a0, 0, 0, wrap64 (a1 / 16384)⟩ : S53) )) (Reps.c5 (show Kd.M k53 _ _ _ (⟨16, a0, a0, 0, 14⟩ : S53) [.int .u8 16, .int .i64 a0, .int .i64 a0, .int .i64 0, .int .i64 14] from (k53_mkM _ _ _ (⟨16, a0, a0, 0, 14⟩ : S53) )) (Reps.c5 (show Kd.M k53 _ _ _ (⟨17, a0, a0, 0, wrap64 (Go.bits .and .i32 a1 16383)⟩ : S53) [.int .u8 17, .int .i64 a0, .int .i64 a0, .int .i64 0, .int .i64 (wrap64 (Go.bits .and .i32 a1 16383))] from (k53_mkM _ _ _ (⟨17, a0, a0, 0, wrap64 (Go.bits .and .i32 a1 16383)⟩ : S53) )) (Reps.none _ _))))); intro v236 w12 ho13 hb hg_ hnew_; clear hg_ hnew_; (first | rw [← Ny235.out] at ho13 | (simp only [Int.reduceToNat] at ho13; rw [← Ny235.out] at ho13)); have n0_ := Aside0.mk (Kd.R_lower ho13 (below_size (by repeat (first | (with_reducible first | exact HB.out | apply below_alloc | apply pw_below_drewN | apply below_drew1) | exact HB.out)))); have n1_ := Aside0.mk (below_step (by repeat (first | (with_reducible first | exact HB.out | apply below_alloc | apply pw_below_drewN | apply below_drew1) | exact HB.out)) hb); clear HB; have HO237 := n0_; have HB := n1_; clear n0_ n1_; clear hb ho13))
          go_ret
          exact ⟨_, by first | rfl | (simp [errW_none, errW_some] <;> rfl) | (simp [*, errW_none, errW_some] <;> rfl), by (with_reducible repeat (first | apply Kd.R_alloc | apply Kd.R_drewN | apply Kd.R_drew)); exact HO237.out, by repeat (first | (with_reducible first | exact HB.out | apply below_alloc | apply pw_below_drewN | apply below_drew1) | exact HB.out)⟩
def isa_rows.l0 : Nat → List (S108) → List ByteArray → Int → Int → Option ((List (S108)))
  | 0, _, _, _, _ => none
  | k + 1, x1, x7, x8, x9 => if x9 < x8 then (if 0 ≤ x9 then (if x9 < (x7.length : Int) then (if x1.length < 1759218604441 then (isa_rows.l0 k (x1 ++ [(⟨rdOf ByteArray.empty x7 x9, (⟨#[97, 98, 99]⟩ : ByteArray), 0, 0, (⟨#[98, 99]⟩ : ByteArray), (⟨#[97]⟩ : ByteArray)⟩ : S108)]) x7 x8 (wrap64 (x9 + 1))) else (none)) else (none)) else (none)) else ((some (([(⟨(⟨#[108, 105]⟩ : ByteArray), (⟨#[97, 105]⟩ : ByteArray), (-131072), 131071, (⟨#[]⟩ : ByteArray), (⟨#[97]⟩ : ByteArray)⟩ : S108), (⟨(⟨#[97, 100, 100, 105]⟩ : ByteArray), (⟨#[97, 98, 105]⟩ : ByteArray), (-131072), 131071, (⟨#[98]⟩ : ByteArray), (⟨#[97]⟩ : ByteArray)⟩ : S108), (⟨(⟨#[115, 104, 108, 105]⟩ : ByteArray), (⟨#[97, 98, 105]⟩ : ByteArray), 0, 31, (⟨#[98]⟩ : ByteArray), (⟨#[97]⟩ : ByteArray)⟩ : S108), (⟨(⟨#[111, 114, 105]⟩ : ByteArray), (⟨#[97, 98, 105]⟩ : ByteArray), 0, 16383, (⟨#[98]⟩ : ByteArray), (⟨#[97]⟩ : ByteArray)⟩ : S108), (⟨(⟨#[108, 100]⟩ : ByteArray), (⟨#[97, 98, 105]⟩ : ByteArray), (-131072), 131071, (⟨#[98]⟩ : ByteArray), (⟨#[97]⟩ : ByteArray)⟩ : S108), (⟨(⟨#[115, 116]⟩ : ByteArray), (⟨#[97, 98, 105]⟩ : ByteArray), (-131072), 131071, (⟨#[97, 98]⟩ : ByteArray), (⟨#[]⟩ : ByteArray)⟩ : S108), (⟨(⟨#[108, 100, 115]⟩ : ByteArray), (⟨#[97, 98, 105]⟩ : ByteArray), (-131072), 131071, (⟨#[98]⟩ : ByteArray), (⟨#[97]⟩ : ByteArray)⟩ : S108), (⟨(⟨#[115, 116, 115]⟩ : ByteArray), (⟨#[97, 98, 105]⟩ : ByteArray), (-131072), 131071, (⟨#[97, 98]⟩ : ByteArray), (⟨#[]⟩ : ByteArray)⟩ : S108), (⟨(⟨#[98, 101, 113, 122]⟩ : ByteArray), (⟨#[97, 105]⟩ : ByteArray), (-131072), 131071, (⟨#[97]⟩ : ByteArray), (⟨#[]⟩ : ByteArray)⟩ : S108), (⟨(⟨#[98, 110, 101, 122]⟩ : ByteArray), (⟨#[97, 105]⟩ : ByteArray), (-131072), 131071, (⟨#[97]⟩ : ByteArray), (⟨#[]⟩ : ByteArray)⟩ : S108), (⟨(⟨#[106, 109, 112]⟩ : ByteArray), (⟨#[105]⟩ : ByteArray), (-131072), 131071, (⟨#[]⟩ : ByteArray), (⟨#[]⟩ : ByteArray)⟩ : S108), (⟨(⟨#[98, 111, 117, 110, 100]⟩ : ByteArray), (⟨#[97, 105]⟩ : ByteArray), 1, 131071, (⟨#[97]⟩ : ByteArray), (⟨#[]⟩ : ByteArray)⟩ : S108), (⟨(⟨#[105, 110]⟩ : ByteArray), (⟨#[97, 105]⟩ : ByteArray), 0, 7, (⟨#[]⟩ : ByteArray), (⟨#[97]⟩ : ByteArray)⟩ : S108), (⟨(⟨#[111, 117, 116]⟩ : ByteArray), (⟨#[97, 105]⟩ : ByteArray), 0, 7, (⟨#[97]⟩ : ByteArray), (⟨#[]⟩ : ByteArray)⟩ : S108), (⟨(⟨#[108, 111, 99, 107]⟩ : ByteArray), (⟨#[105]⟩ : ByteArray), 0, 3, (⟨#[]⟩ : ByteArray), (⟨#[]⟩ : ByteArray)⟩ : S108), (⟨(⟨#[117, 110, 108, 111, 99, 107]⟩ : ByteArray), (⟨#[105]⟩ : ByteArray), 0, 3, (⟨#[]⟩ : ByteArray), (⟨#[]⟩ : ByteArray)⟩ : S108)] : List (S108)) : List (S108))).bind fun y253 => (if x1.length + y253.length < 1759218604441 then (some (x1 ++ y253)) else (none)))
def isa_rows.f (k : Nat)  : Option ((List (S108))) := (some (([(⟨#[97, 100, 100]⟩ : ByteArray), (⟨#[115, 117, 98]⟩ : ByteArray), (⟨#[109, 117, 108]⟩ : ByteArray), (⟨#[100, 105, 118]⟩ : ByteArray), (⟨#[109, 111, 100]⟩ : ByteArray), (⟨#[97, 110, 100]⟩ : ByteArray), (⟨#[111, 114]⟩ : ByteArray), (⟨#[120, 111, 114]⟩ : ByteArray), (⟨#[115, 104, 108]⟩ : ByteArray), (⟨#[115, 104, 114]⟩ : ByteArray), (⟨#[101, 113]⟩ : ByteArray), (⟨#[108, 116]⟩ : ByteArray)] : List ByteArray) : List ByteArray)).bind fun y246 => (isa_rows.l0 k (([(⟨(⟨#[110, 111, 112]⟩ : ByteArray), (⟨#[]⟩ : ByteArray), 0, 0, (⟨#[]⟩ : ByteArray), (⟨#[]⟩ : ByteArray)⟩ : S108), (⟨(⟨#[104, 97, 108, 116]⟩ : ByteArray), (⟨#[]⟩ : ByteArray), 0, 0, (⟨#[]⟩ : ByteArray), (⟨#[]⟩ : ByteArray)⟩ : S108)] : List (S108))) y246 (y246.length : Int) 0)
set_option maxHeartbeats 8000000 in
set_option maxRecDepth 100000 in
theorem isa_rows.calls (k : Nat)  (r : List (S108)) (w : World) (h : isa_rows.f k  = some r) :
    Calls Try.prog 62 #[] w fun e w' => ∃ v0_ : Value, e = .returned (v0_) ∧ Kd.R k108 108 w' w.heap.size (fun _ => True) v0_ r ∧ Below w.heap.size w w' := by
  have hu108 := Try.underlying108
  have HB := Aside0.mk (Below.refl w.heap.size w)
  have H : ((some (([(⟨#[97, 100, 100]⟩ : ByteArray), (⟨#[115, 117, 98]⟩ : ByteArray), (⟨#[109, 117, 108]⟩ : ByteArray), (⟨#[100, 105, 118]⟩ : ByteArray), (⟨#[109, 111, 100]⟩ : ByteArray), (⟨#[97, 110, 100]⟩ : ByteArray), (⟨#[111, 114]⟩ : ByteArray), (⟨#[120, 111, 114]⟩ : ByteArray), (⟨#[115, 104, 108]⟩ : ByteArray), (⟨#[115, 104, 114]⟩ : ByteArray), (⟨#[101, 113]⟩ : ByteArray), (⟨#[108, 116]⟩ : ByteArray)] : List ByteArray) : List ByteArray)).bind fun y246 => (isa_rows.l0 k (([(⟨(⟨#[110, 111, 112]⟩ : ByteArray), (⟨#[]⟩ : ByteArray), 0, 0, (⟨#[]⟩ : ByteArray), (⟨#[]⟩ : ByteArray)⟩ : S108), (⟨(⟨#[104, 97, 108, 116]⟩ : ByteArray), (⟨#[]⟩ : ByteArray), 0, 0, (⟨#[]⟩ : ByteArray), (⟨#[]⟩ : ByteArray)⟩ : S108)] : List (S108))) y246 (y246.length : Int) 0)) = some r := h
  clear h
  obtain ⟨y243, hy243⟩ : ∃ y_ : List (S108), y_ = (([(⟨(⟨#[110, 111, 112]⟩ : ByteArray), (⟨#[]⟩ : ByteArray), 0, 0, (⟨#[]⟩ : ByteArray), (⟨#[]⟩ : ByteArray)⟩ : S108), (⟨(⟨#[104, 97, 108, 116]⟩ : ByteArray), (⟨#[]⟩ : ByteArray), 0, 0, (⟨#[]⟩ : ByteArray), (⟨#[]⟩ : ByteArray)⟩ : S108)] : List (S108))) := ⟨_, rfl⟩
  replace H : ((some (([(⟨#[97, 100, 100]⟩ : ByteArray), (⟨#[115, 117, 98]⟩ : ByteArray), (⟨#[109, 117, 108]⟩ : ByteArray), (⟨#[100, 105, 118]⟩ : ByteArray), (⟨#[109, 111, 100]⟩ : ByteArray), (⟨#[97, 110, 100]⟩ : ByteArray), (⟨#[111, 114]⟩ : ByteArray), (⟨#[120, 111, 114]⟩ : ByteArray), (⟨#[115, 104, 108]⟩ : ByteArray), (⟨#[115, 104, 114]⟩ : ByteArray), (⟨#[101, 113]⟩ : ByteArray), (⟨#[108, 116]⟩ : ByteArray)] : List ByteArray) : List ByteArray)).bind fun y246 => (isa_rows.l0 k y243 y246 (y246.length : Int) 0)) = some r := by first | (rw [hy243]; with_reducible exact H) | (have H2_ := (Option.bind_some _ _).symm.trans H; rw [hy243]; with_reducible exact H2_) | (have H2_ := (Option.bind_some _ _).symm.trans H; with_reducible exact H2_) | with_reducible exact H | (rw [hy243]; exact H) | exact H
  have Ny243 := Aside0.mk hy243
  clear hy243
  obtain ⟨y246, hy246⟩ : ∃ y_ : List ByteArray, y_ = (([(⟨#[97, 100, 100]⟩ : ByteArray), (⟨#[115, 117, 98]⟩ : ByteArray), (⟨#[109, 117, 108]⟩ : ByteArray), (⟨#[100, 105, 118]⟩ : ByteArray), (⟨#[109, 111, 100]⟩ : ByteArray), (⟨#[97, 110, 100]⟩ : ByteArray), (⟨#[111, 114]⟩ : ByteArray), (⟨#[120, 111, 114]⟩ : ByteArray), (⟨#[115, 104, 108]⟩ : ByteArray), (⟨#[115, 104, 114]⟩ : ByteArray), (⟨#[101, 113]⟩ : ByteArray), (⟨#[108, 116]⟩ : ByteArray)] : List ByteArray)) := ⟨_, rfl⟩
  replace H : (isa_rows.l0 k y243 y246 (y246.length : Int) 0) = some r := by first | (rw [hy246]; with_reducible exact H) | (have H2_ := (Option.bind_some _ _).symm.trans H; rw [hy246]; with_reducible exact H2_) | (have H2_ := (Option.bind_some _ _).symm.trans H; with_reducible exact H2_) | with_reducible exact H | (rw [hy246]; exact H) | exact H
  have Ny246 := Aside0.mk hy246
  clear hy246
  have H' := Aside0.mk H
  clear H
  go_enter Try.func62, Try.ntmps62
  go_wp2_with (first | ((with_reducible refine gate_dst (N := 6) rfl ?_); refine Kd.R_lit k108 _ 108 ?hg (N := 6) ?hd (xs := ([(⟨(⟨#[110, 111, 112]⟩ : ByteArray), (⟨#[]⟩ : ByteArray), 0, 0, (⟨#[]⟩ : ByteArray), (⟨#[]⟩ : ByteArray)⟩ : S108), (⟨(⟨#[104, 97, 108, 116]⟩ : ByteArray), (⟨#[]⟩ : ByteArray), 0, 0, (⟨#[]⟩ : ByteArray), (⟨#[]⟩ : ByteArray)⟩ : S108)] : List (S108))) (inner := [.string (⟨#[110, 111, 112]⟩ : ByteArray), .string (⟨#[]⟩ : ByteArray), .int .i64 0, .int .i64 0, .string (⟨#[]⟩ : ByteArray), .string (⟨#[]⟩ : ByteArray), .string (⟨#[104, 97, 108, 116]⟩ : ByteArray), .string (⟨#[]⟩ : ByteArray), .int .i64 0, .int .i64 0, .string (⟨#[]⟩ : ByteArray), .string (⟨#[]⟩ : ByteArray)]) (ok := fun _ => True) (okp := fun _ => True) ?hr ?hp (fun _ hk => hk) trivial (Below.refl _ _) (Nat.le_refl _) (by simp) ?_; (case hd => rfl); (case hg => rfl); (case hr => first | (go_simp; done) | (go_simp; rfl)); (case hp => exact (Reps.c6 (show Kd.M k108 _ _ _ (⟨(⟨#[110, 111, 112]⟩ : ByteArray), (⟨#[]⟩ : ByteArray), 0, 0, (⟨#[]⟩ : ByteArray), (⟨#[]⟩ : ByteArray)⟩ : S108) [.string (⟨#[110, 111, 112]⟩ : ByteArray), .string (⟨#[]⟩ : ByteArray), .int .i64 0, .int .i64 0, .string (⟨#[]⟩ : ByteArray), .string (⟨#[]⟩ : ByteArray)] from (k108_mkM _ _ _ (⟨(⟨#[110, 111, 112]⟩ : ByteArray), (⟨#[]⟩ : ByteArray), 0, 0, (⟨#[]⟩ : ByteArray), (⟨#[]⟩ : ByteArray)⟩ : S108) )) (Reps.c6 (show Kd.M k108 _ _ _ (⟨(⟨#[104, 97, 108, 116]⟩ : ByteArray), (⟨#[]⟩ : ByteArray), 0, 0, (⟨#[]⟩ : ByteArray), (⟨#[]⟩ : ByteArray)⟩ : S108) [.string (⟨#[104, 97, 108, 116]⟩ : ByteArray), .string (⟨#[]⟩ : ByteArray), .int .i64 0, .int .i64 0, .string (⟨#[]⟩ : ByteArray), .string (⟨#[]⟩ : ByteArray)] from (k108_mkM _ _ _ (⟨(⟨#[104, 97, 108, 116]⟩ : ByteArray), (⟨#[]⟩ : ByteArray), 0, 0, (⟨#[]⟩ : ByteArray), (⟨#[]⟩ : ByteArray)⟩ : S108) )) (Reps.none _ _)))); intro v244 w1 ho2 hb hg_ hnew_; clear hg_ hnew_; (first | rw [← Ny243.out] at ho2 | (simp only [Int.reduceToNat] at ho2; rw [← Ny243.out] at ho2)); have n0_ := Aside0.mk (Kd.R_lower ho2 (below_size (by repeat (first | (with_reducible first | exact HB.out | apply below_alloc | apply pw_below_drewN | apply below_drew1) | exact HB.out)))); have n1_ := Aside0.mk (below_step (by repeat (first | (with_reducible first | exact HB.out | apply below_alloc | apply pw_below_drewN | apply below_drew1) | exact HB.out)) hb); clear HB; have HO245 := n0_; have HB := n1_; clear n0_ n1_; clear hb ho2) | ((with_reducible refine gate_dst (N := 7) rfl ?_); refine Kd.R_lit Kd.string _ 9 ?hg (N := 7) ?hd (xs := ([(⟨#[97, 100, 100]⟩ : ByteArray), (⟨#[115, 117, 98]⟩ : ByteArray), (⟨#[109, 117, 108]⟩ : ByteArray), (⟨#[100, 105, 118]⟩ : ByteArray), (⟨#[109, 111, 100]⟩ : ByteArray), (⟨#[97, 110, 100]⟩ : ByteArray), (⟨#[111, 114]⟩ : ByteArray), (⟨#[120, 111, 114]⟩ : ByteArray), (⟨#[115, 104, 108]⟩ : ByteArray), (⟨#[115, 104, 114]⟩ : ByteArray), (⟨#[101, 113]⟩ : ByteArray), (⟨#[108, 116]⟩ : ByteArray)] : List ByteArray)) (inner := [.string (⟨#[97, 100, 100]⟩ : ByteArray), .string (⟨#[115, 117, 98]⟩ : ByteArray), .string (⟨#[109, 117, 108]⟩ : ByteArray), .string (⟨#[100, 105, 118]⟩ : ByteArray), .string (⟨#[109, 111, 100]⟩ : ByteArray), .string (⟨#[97, 110, 100]⟩ : ByteArray), .string (⟨#[111, 114]⟩ : ByteArray), .string (⟨#[120, 111, 114]⟩ : ByteArray), .string (⟨#[115, 104, 108]⟩ : ByteArray), .string (⟨#[115, 104, 114]⟩ : ByteArray), .string (⟨#[101, 113]⟩ : ByteArray), .string (⟨#[108, 116]⟩ : ByteArray)]) (ok := fun _ => True) (okp := fun _ => True) ?hr ?hp (fun _ hk => hk) trivial (Below.refl _ _) (Nat.le_refl _) (by simp) ?_; (case hd => rfl); (case hg => rfl); (case hr => first | (go_simp; done) | (go_simp; rfl)); (case hp => exact (Reps.one (show Kd.M Kd.string _ _ _ (⟨#[97, 100, 100]⟩ : ByteArray) [.string (⟨#[97, 100, 100]⟩ : ByteArray)] from rfl) (Reps.one (show Kd.M Kd.string _ _ _ (⟨#[115, 117, 98]⟩ : ByteArray) [.string (⟨#[115, 117, 98]⟩ : ByteArray)] from rfl) (Reps.one (show Kd.M Kd.string _ _ _ (⟨#[109, 117, 108]⟩ : ByteArray) [.string (⟨#[109, 117, 108]⟩ : ByteArray)] from rfl) (Reps.one (show Kd.M Kd.string _ _ _ (⟨#[100, 105, 118]⟩ : ByteArray) [.string (⟨#[100, 105, 118]⟩ : ByteArray)] from rfl) (Reps.one (show Kd.M Kd.string _ _ _ (⟨#[109, 111, 100]⟩ : ByteArray) [.string (⟨#[109, 111, 100]⟩ : ByteArray)] from rfl) (Reps.one (show Kd.M Kd.string _ _ _ (⟨#[97, 110, 100]⟩ : ByteArray) [.string (⟨#[97, 110, 100]⟩ : ByteArray)] from rfl) (Reps.one (show Kd.M Kd.string _ _ _ (⟨#[111, 114]⟩ : ByteArray) [.string (⟨#[111, 114]⟩ : ByteArray)] from rfl) (Reps.one (show Kd.M Kd.string _ _ _ (⟨#[120, 111, 114]⟩ : ByteArray) [.string (⟨#[120, 111, 114]⟩ : ByteArray)] from rfl) (Reps.one (show Kd.M Kd.string _ _ _ (⟨#[115, 104, 108]⟩ : ByteArray) [.string (⟨#[115, 104, 108]⟩ : ByteArray)] from rfl) (Reps.one (show Kd.M Kd.string _ _ _ (⟨#[115, 104, 114]⟩ : ByteArray) [.string (⟨#[115, 104, 114]⟩ : ByteArray)] from rfl) (Reps.one (show Kd.M Kd.string _ _ _ (⟨#[101, 113]⟩ : ByteArray) [.string (⟨#[101, 113]⟩ : ByteArray)] from rfl) (Reps.one (show Kd.M Kd.string _ _ _ (⟨#[108, 116]⟩ : ByteArray) [.string (⟨#[108, 116]⟩ : ByteArray)] from rfl) (Reps.none _ _)))))))))))))); intro v247 w3 ho4 hb hg_ hnew_; clear hg_ hnew_; (first | rw [← Ny246.out] at ho4 | (simp only [Int.reduceToNat] at ho4; rw [← Ny246.out] at ho4)); have n0_ := Aside0.mk (Kd.R_below (by (with_reducible repeat (first | apply Kd.R_alloc | apply Kd.R_drewN | apply Kd.R_drew)); exact HO245.out) hb); have n1_ := Aside0.mk (Kd.R_lower ho4 (below_size (by repeat (first | (with_reducible first | exact HB.out | apply below_alloc | apply pw_below_drewN | apply below_drew1) | exact HB.out)))); have n2_ := Aside0.mk (below_step (by repeat (first | (with_reducible first | exact HB.out | apply below_alloc | apply pw_below_drewN | apply below_drew1) | exact HB.out)) hb); clear HO245; clear HB; have HO245 := n0_; have HO248 := n1_; have HB := n2_; clear n0_ n1_ n2_; clear hb ho4; obtain ⟨Ao5, co5, eo5⟩ := Kd.R_slice HO248.out; subst eo5))
  go_loopg [1, 9] k (fun kq v1 v9 w' => ∃ (x1_1 : List (S108)) (x9_1 : Int), v9 = .int .i64 x9_1 ∧ Aside0 (isa_rows.l0 kq x1_1 y246 (y246.length : Int) x9_1 = some r) ∧ Aside0 (kq ≤ k) ∧ Aside0 (Kd.R k108 108 w' w.heap.size (fun _ => True) v1 x1_1) ∧ Aside0 (Kd.R Kd.string 9 w' w.heap.size (fun _ => True) (.slice Ao5 y246.length co5) y246) ∧ Aside0 (Below w.heap.size w w'))
  case atStart => exact ⟨(y243), (0), (by first | rfl | (simp; done) | (simp [*]; done)), H', ⟨Nat.le_refl _⟩, ⟨by (with_reducible repeat (first | apply Kd.R_alloc | apply Kd.R_drewN | apply Kd.R_drew)); exact HO245.out⟩, ⟨by (with_reducible repeat (first | apply Kd.R_alloc | apply Kd.R_drewN | apply Kd.R_drew)); exact HO248.out⟩, ⟨by repeat (first | (with_reducible first | exact HB.out | apply below_alloc | apply pw_below_drewN | apply below_drew1) | exact HB.out)⟩⟩
  case round =>
    clear H'
    try clear p2
    obtain ⟨x1_1, x9_1, rfl, HA, HK1, HO_1, HO_7, HB⟩ := hrel
    cases gk with
    | zero => exact absurd HA.out (by simp [isa_rows.l0])
    | succ k1 =>
      have H := HA.out
      clear HA
      simp only [isa_rows.l0] at H
      by_cases c6 : x9_1 < (y246.length : Int)
      · rw [if_pos c6] at H
        have c6b0 : decide (x9_1 < (y246.length : Int)) = true := decide_eq_true c6
        clear c6
        by_cases c7 : 0 ≤ x9_1
        · rw [if_pos c7] at H
          have c7b0 : decide (0 ≤ x9_1) = true := decide_eq_true c7
          clear c7
          by_cases c8 : x9_1 < (y246.length : Int)
          · rw [if_pos c8] at H
            have c8b0 : decide (x9_1 < (y246.length : Int)) = true := decide_eq_true c8
            clear c8
            by_cases c9 : x1_1.length < 1759218604441
            · rw [if_pos c9] at H
              have LMc9 := Aside0.mk c9
              clear c9
              obtain ⟨y250, hy250⟩ : ∃ y_ : List (S108), y_ = (x1_1 ++ [(⟨rdOf ByteArray.empty y246 x9_1, (⟨#[97, 98, 99]⟩ : ByteArray), 0, 0, (⟨#[98, 99]⟩ : ByteArray), (⟨#[97]⟩ : ByteArray)⟩ : S108)]) := ⟨_, rfl⟩
              replace H : (isa_rows.l0 k1 y250 y246 (y246.length : Int) (wrap64 (x9_1 + 1))) = some r := by first | (rw [hy250]; with_reducible exact H) | (have H2_ := (Option.bind_some _ _).symm.trans H; rw [hy250]; with_reducible exact H2_) | (have H2_ := (Option.bind_some _ _).symm.trans H; with_reducible exact H2_) | with_reducible exact H | (rw [hy250]; exact H) | exact H
              have Ny250 := Aside0.mk hy250
              clear hy250
              have H' := Aside0.mk H
              clear H
              have p249 : 0 ≤ (x9_1 : Int) := of_decide_eq_true (by first | (with_reducible assumption) | assumption)
              have q249 : x9_1 < (y246.length : Int) := of_decide_eq_true (by first | (with_reducible assumption) | assumption)
              obtain ⟨ad249, e249, hx249_0⟩ := Kd.at_string (Kd.R_reads' HO_7.out).2.2 x9_1 p249 q249
              cases e249
              replace p249 := eq_true p249
              replace q249 := eq_true q249
              go_wp2_with (first | ((with_reducible refine gate_builtin (b := .append) (xs := #[.tmp 13, .tmp 16]) rfl ?_); at_builtin; refine Kd.R_append k108 (w0 := w) w.heap.size rfl (.tmp 13) (.tmp 16) 150 108 (.agg #[(.string ⟨#[]⟩), (.string ⟨#[]⟩), (.int .i64 0), (.int .i64 0), (.string ⟨#[]⟩), (.string ⟨#[]⟩)]) 80 rfl Try.underlying150 info108 rfl (by decide) (by omega) u1 x1_1 (⟨rdOf ByteArray.empty y246 x9_1, (⟨#[97, 98, 99]⟩ : ByteArray), 0, 0, (⟨#[98, 99]⟩ : ByteArray), (⟨#[97]⟩ : ByteArray)⟩ : S108) [.string (rdOf ByteArray.empty y246 x9_1), .string (⟨#[97, 98, 99]⟩ : ByteArray), .int .i64 0, .int .i64 0, .string (⟨#[98, 99]⟩ : ByteArray), .string (⟨#[97]⟩ : ByteArray)] (fun _ => True) (fun _ => False) rfl rfl ?aP (fun _ hk => hk.elim) ?aF ?aO ?aB ?aS ?aL ?_; (case aP => exact k108_mkM _ _ _ (⟨rdOf ByteArray.empty y246 x9_1, (⟨#[97, 98, 99]⟩ : ByteArray), 0, 0, (⟨#[98, 99]⟩ : ByteArray), (⟨#[97]⟩ : ByteArray)⟩ : S108)); (case aB => exact (by repeat (first | (with_reducible first | exact HB.out | apply below_alloc | apply pw_below_drewN | apply below_drew1) | exact HB.out))); (case aF => exact (fun _ _ => trivial)); (case aO => exact (by (with_reducible repeat (first | apply Kd.R_alloc | apply Kd.R_drewN | apply Kd.R_drew)); exact HO_1.out)); (case aS => exact (below_size (by repeat (first | (with_reducible first | exact HB.out | apply below_alloc | apply pw_below_drewN | apply below_drew1) | exact HB.out)))); (case aL => have := LMc9.out; omega); intro v251 w10 ho hb hg hat; rw [← Ny250.out] at ho; have n0_ := Aside0.mk (Kd.R_over' (by (with_reducible repeat (first | apply Kd.R_alloc | apply Kd.R_drewN | apply Kd.R_drew)); exact HO_7.out) (Kd.R_typed (by (with_reducible repeat (first | apply Kd.R_alloc | apply Kd.R_drewN | apply Kd.R_drew)); exact HO_1.out)) (by decide) hg); have n1_ := Aside0.mk (hb); have n2_ := Aside0.mk (ho); clear HO_7; clear HB; clear HO_1; have HO_7 := n0_; have HB := n1_; have HO252 := n2_; clear n0_ n1_ n2_; clear ho hb hg hat))
              go_roundg k1
              case measure => have := HK1.out; omega
              case rel => exact ⟨(y250), (wrap64 (x9_1 + 1)), (by first | rfl | (simp; done) | (simp [*]; done)), H', ⟨by have := HK1.out; omega⟩, ⟨by (with_reducible repeat (first | apply Kd.R_alloc | apply Kd.R_drewN | apply Kd.R_drew)); exact HO252.out⟩, ⟨by (with_reducible repeat (first | apply Kd.R_alloc | apply Kd.R_drewN | apply Kd.R_drew)); exact HO_7.out⟩, ⟨by repeat (first | (with_reducible first | exact HB.out | apply below_alloc | apply pw_below_drewN | apply below_drew1) | exact HB.out)⟩⟩
            · rw [if_neg c9] at H
              exact absurd H (by simp)
          · rw [if_neg c8] at H
            exact absurd H (by simp)
        · rw [if_neg c7] at H
          exact absurd H (by simp)
      · rw [if_neg c6] at H
        have c6b0 : decide (x9_1 < (y246.length : Int)) = false := decide_eq_false c6
        clear c6
        obtain ⟨y253, hy253⟩ : ∃ y_ : List (S108), y_ = (([(⟨(⟨#[108, 105]⟩ : ByteArray), (⟨#[97, 105]⟩ : ByteArray), (-131072), 131071, (⟨#[]⟩ : ByteArray), (⟨#[97]⟩ : ByteArray)⟩ : S108), (⟨(⟨#[97, 100, 100, 105]⟩ : ByteArray), (⟨#[97, 98, 105]⟩ : ByteArray), (-131072), 131071, (⟨#[98]⟩ : ByteArray), (⟨#[97]⟩ : ByteArray)⟩ : S108), (⟨(⟨#[115, 104, 108, 105]⟩ : ByteArray), (⟨#[97, 98, 105]⟩ : ByteArray), 0, 31, (⟨#[98]⟩ : ByteArray), (⟨#[97]⟩ : ByteArray)⟩ : S108), (⟨(⟨#[111, 114, 105]⟩ : ByteArray), (⟨#[97, 98, 105]⟩ : ByteArray), 0, 16383, (⟨#[98]⟩ : ByteArray), (⟨#[97]⟩ : ByteArray)⟩ : S108), (⟨(⟨#[108, 100]⟩ : ByteArray), (⟨#[97, 98, 105]⟩ : ByteArray), (-131072), 131071, (⟨#[98]⟩ : ByteArray), (⟨#[97]⟩ : ByteArray)⟩ : S108), (⟨(⟨#[115, 116]⟩ : ByteArray), (⟨#[97, 98, 105]⟩ : ByteArray), (-131072), 131071, (⟨#[97, 98]⟩ : ByteArray), (⟨#[]⟩ : ByteArray)⟩ : S108), (⟨(⟨#[108, 100, 115]⟩ : ByteArray), (⟨#[97, 98, 105]⟩ : ByteArray), (-131072), 131071, (⟨#[98]⟩ : ByteArray), (⟨#[97]⟩ : ByteArray)⟩ : S108), (⟨(⟨#[115, 116, 115]⟩ : ByteArray), (⟨#[97, 98, 105]⟩ : ByteArray), (-131072), 131071, (⟨#[97, 98]⟩ : ByteArray), (⟨#[]⟩ : ByteArray)⟩ : S108), (⟨(⟨#[98, 101, 113, 122]⟩ : ByteArray), (⟨#[97, 105]⟩ : ByteArray), (-131072), 131071, (⟨#[97]⟩ : ByteArray), (⟨#[]⟩ : ByteArray)⟩ : S108), (⟨(⟨#[98, 110, 101, 122]⟩ : ByteArray), (⟨#[97, 105]⟩ : ByteArray), (-131072), 131071, (⟨#[97]⟩ : ByteArray), (⟨#[]⟩ : ByteArray)⟩ : S108), (⟨(⟨#[106, 109, 112]⟩ : ByteArray), (⟨#[105]⟩ : ByteArray), (-131072), 131071, (⟨#[]⟩ : ByteArray), (⟨#[]⟩ : ByteArray)⟩ : S108), (⟨(⟨#[98, 111, 117, 110, 100]⟩ : ByteArray), (⟨#[97, 105]⟩ : ByteArray), 1, 131071, (⟨#[97]⟩ : ByteArray), (⟨#[]⟩ : ByteArray)⟩ : S108), (⟨(⟨#[105, 110]⟩ : ByteArray), (⟨#[97, 105]⟩ : ByteArray), 0, 7, (⟨#[]⟩ : ByteArray), (⟨#[97]⟩ : ByteArray)⟩ : S108), (⟨(⟨#[111, 117, 116]⟩ : ByteArray), (⟨#[97, 105]⟩ : ByteArray), 0, 7, (⟨#[97]⟩ : ByteArray), (⟨#[]⟩ : ByteArray)⟩ : S108), (⟨(⟨#[108, 111, 99, 107]⟩ : ByteArray), (⟨#[105]⟩ : ByteArray), 0, 3, (⟨#[]⟩ : ByteArray), (⟨#[]⟩ : ByteArray)⟩ : S108), (⟨(⟨#[117, 110, 108, 111, 99, 107]⟩ : ByteArray), (⟨#[105]⟩ : ByteArray), 0, 3, (⟨#[]⟩ : ByteArray), (⟨#[]⟩ : ByteArray)⟩ : S108)] : List (S108))) := ⟨_, rfl⟩
        replace H : (if x1_1.length + y253.length < 1759218604441 then (some (x1_1 ++ y253)) else (none)) = some r := by first | (rw [hy253]; with_reducible exact H) | (have H2_ := (Option.bind_some _ _).symm.trans H; rw [hy253]; with_reducible exact H2_) | (have H2_ := (Option.bind_some _ _).symm.trans H; with_reducible exact H2_) | with_reducible exact H | (rw [hy253]; exact H) | exact H
        have Ny253 := Aside0.mk hy253
        clear hy253
        by_cases c11 : x1_1.length + y253.length < 1759218604441
        · rw [if_pos c11] at H
          have LMc11 := Aside0.mk c11
          clear c11
          obtain ⟨y256, hy256⟩ : ∃ y_ : List (S108), y_ = (x1_1 ++ y253) := ⟨_, rfl⟩
          replace H : (some y256) = some r := by first | (rw [hy256]; with_reducible exact H) | (have H2_ := (Option.bind_some _ _).symm.trans H; rw [hy256]; with_reducible exact H2_) | (have H2_ := (Option.bind_some _ _).symm.trans H; with_reducible exact H2_) | with_reducible exact H | (rw [hy256]; exact H) | exact H
          have Ny256 := Aside0.mk hy256
          clear hy256
          obtain rfl := Option.some.inj H
          go_wp2_with (first | ((with_reducible refine gate_dst (N := 36) rfl ?_); refine Kd.R_lit k108 _ 108 ?hg (N := 36) ?hd (xs := ([(⟨(⟨#[108, 105]⟩ : ByteArray), (⟨#[97, 105]⟩ : ByteArray), (-131072), 131071, (⟨#[]⟩ : ByteArray), (⟨#[97]⟩ : ByteArray)⟩ : S108), (⟨(⟨#[97, 100, 100, 105]⟩ : ByteArray), (⟨#[97, 98, 105]⟩ : ByteArray), (-131072), 131071, (⟨#[98]⟩ : ByteArray), (⟨#[97]⟩ : ByteArray)⟩ : S108), (⟨(⟨#[115, 104, 108, 105]⟩ : ByteArray), (⟨#[97, 98, 105]⟩ : ByteArray), 0, 31, (⟨#[98]⟩ : ByteArray), (⟨#[97]⟩ : ByteArray)⟩ : S108), (⟨(⟨#[111, 114, 105]⟩ : ByteArray), (⟨#[97, 98, 105]⟩ : ByteArray), 0, 16383, (⟨#[98]⟩ : ByteArray), (⟨#[97]⟩ : ByteArray)⟩ : S108), (⟨(⟨#[108, 100]⟩ : ByteArray), (⟨#[97, 98, 105]⟩ : ByteArray), (-131072), 131071, (⟨#[98]⟩ : ByteArray), (⟨#[97]⟩ : ByteArray)⟩ : S108), (⟨(⟨#[115, 116]⟩ : ByteArray), (⟨#[97, 98, 105]⟩ : ByteArray), (-131072), 131071, (⟨#[97, 98]⟩ : ByteArray), (⟨#[]⟩ : ByteArray)⟩ : S108), (⟨(⟨#[108, 100, 115]⟩ : ByteArray), (⟨#[97, 98, 105]⟩ : ByteArray), (-131072), 131071, (⟨#[98]⟩ : ByteArray), (⟨#[97]⟩ : ByteArray)⟩ : S108), (⟨(⟨#[115, 116, 115]⟩ : ByteArray), (⟨#[97, 98, 105]⟩ : ByteArray), (-131072), 131071, (⟨#[97, 98]⟩ : ByteArray), (⟨#[]⟩ : ByteArray)⟩ : S108), (⟨(⟨#[98, 101, 113, 122]⟩ : ByteArray), (⟨#[97, 105]⟩ : ByteArray), (-131072), 131071, (⟨#[97]⟩ : ByteArray), (⟨#[]⟩ : ByteArray)⟩ : S108), (⟨(⟨#[98, 110, 101, 122]⟩ : ByteArray), (⟨#[97, 105]⟩ : ByteArray), (-131072), 131071, (⟨#[97]⟩ : ByteArray), (⟨#[]⟩ : ByteArray)⟩ : S108), (⟨(⟨#[106, 109, 112]⟩ : ByteArray), (⟨#[105]⟩ : ByteArray), (-131072), 131071, (⟨#[]⟩ : ByteArray), (⟨#[]⟩ : ByteArray)⟩ : S108), (⟨(⟨#[98, 111, 117, 110, 100]⟩ : ByteArray), (⟨#[97, 105]⟩ : ByteArray), 1, 131071, (⟨#[97]⟩ : ByteArray), (⟨#[]⟩ : ByteArray)⟩ : S108), (⟨(⟨#[105, 110]⟩ : ByteArray), (⟨#[97, 105]⟩ : ByteArray), 0, 7, (⟨#[]⟩ : ByteArray), (⟨#[97]⟩ : ByteArray)⟩ : S108), (⟨(⟨#[111, 117, 116]⟩ : ByteArray), (⟨#[97, 105]⟩ : ByteArray), 0, 7, (⟨#[97]⟩ : ByteArray), (⟨#[]⟩ : ByteArray)⟩ : S108), (⟨(⟨#[108, 111, 99, 107]⟩ : ByteArray), (⟨#[105]⟩ : ByteArray), 0, 3, (⟨#[]⟩ : ByteArray), (⟨#[]⟩ : ByteArray)⟩ : S108), (⟨(⟨#[117, 110, 108, 111, 99, 107]⟩ : ByteArray), (⟨#[105]⟩ : ByteArray), 0, 3, (⟨#[]⟩ : ByteArray), (⟨#[]⟩ : ByteArray)⟩ : S108)] : List (S108))) (inner := [.string (⟨#[108, 105]⟩ : ByteArray), .string (⟨#[97, 105]⟩ : ByteArray), .int .i64 (-131072), .int .i64 131071, .string (⟨#[]⟩ : ByteArray), .string (⟨#[97]⟩ : ByteArray), .string (⟨#[97, 100, 100, 105]⟩ : ByteArray), .string (⟨#[97, 98, 105]⟩ : ByteArray), .int .i64 (-131072), .int .i64 131071, .string (⟨#[98]⟩ : ByteArray), .string (⟨#[97]⟩ : ByteArray), .string (⟨#[115, 104, 108, 105]⟩ : ByteArray), .string (⟨#[97, 98, 105]⟩ : ByteArray), .int .i64 0, .int .i64 31, .string (⟨#[98]⟩ : ByteArray), .string (⟨#[97]⟩ : ByteArray), .string (⟨#[111, 114, 105]⟩ : ByteArray), .string (⟨#[97, 98, 105]⟩ : ByteArray), .int .i64 0, .int .i64 16383, .string (⟨#[98]⟩ : ByteArray), .string (⟨#[97]⟩ : ByteArray), .string (⟨#[108, 100]⟩ : ByteArray), .string (⟨#[97, 98, 105]⟩ : ByteArray), .int .i64 (-131072), .int .i64 131071, .string (⟨#[98]⟩ : ByteArray), .string (⟨#[97]⟩ : ByteArray), .string (⟨#[115, 116]⟩ : ByteArray), .string (⟨#[97, 98, 105]⟩ : ByteArray), .int .i64 (-131072), .int .i64 131071, .string (⟨#[97, 98]⟩ : ByteArray), .string (⟨#[]⟩ : ByteArray), .string (⟨#[108, 100, 115]⟩ : ByteArray), .string (⟨#[97, 98, 105]⟩ : ByteArray), .int .i64 (-131072), .int .i64 131071, .string (⟨#[98]⟩ : ByteArray), .string (⟨#[97]⟩ : ByteArray), .string (⟨#[115, 116, 115]⟩ : ByteArray), .string (⟨#[97, 98, 105]⟩ : ByteArray), .int .i64 (-131072), .int .i64 131071, .string (⟨#[97, 98]⟩ : ByteArray), .string (⟨#[]⟩ : ByteArray), .string (⟨#[98, 101, 113, 122]⟩ : ByteArray), .string (⟨#[97, 105]⟩ : ByteArray), .int .i64 (-131072), .int .i64 131071, .string (⟨#[97]⟩ : ByteArray), .string (⟨#[]⟩ : ByteArray), .string (⟨#[98, 110, 101, 122]⟩ : ByteArray), .string (⟨#[97, 105]⟩ : ByteArray), .int .i64 (-131072), .int .i64 131071, .string (⟨#[97]⟩ : ByteArray), .string (⟨#[]⟩ : ByteArray), .string (⟨#[106, 109, 112]⟩ : ByteArray), .string (⟨#[105]⟩ : ByteArray), .int .i64 (-131072), .int .i64 131071, .string (⟨#[]⟩ : ByteArray), .string (⟨#[]⟩ : ByteArray), .string (⟨#[98, 111, 117, 110, 100]⟩ : ByteArray), .string (⟨#[97, 105]⟩ : ByteArray), .int .i64 1, .int .i64 131071, .string (⟨#[97]⟩ : ByteArray), .string (⟨#[]⟩ : ByteArray), .string (⟨#[105, 110]⟩ : ByteArray), .string (⟨#[97, 105]⟩ : ByteArray), .int .i64 0, .int .i64 7, .string (⟨#[]⟩ : ByteArray), .string (⟨#[97]⟩ : ByteArray), .string (⟨#[111, 117, 116]⟩ : ByteArray), .string (⟨#[97, 105]⟩ : ByteArray), .int .i64 0, .int .i64 7, .string (⟨#[97]⟩ : ByteArray), .string (⟨#[]⟩ : ByteArray), .string (⟨#[108, 111, 99, 107]⟩ : ByteArray), .string (⟨#[105]⟩ : ByteArray), .int .i64 0, .int .i64 3, .string (⟨#[]⟩ : ByteArray), .string (⟨#[]⟩ : ByteArray), .string (⟨#[117, 110, 108, 111, 99, 107]⟩ : ByteArray), .string (⟨#[105]⟩ : ByteArray), .int .i64 0, .int .i64 3, .string (⟨#[]⟩ : ByteArray), .string (⟨#[]⟩ : ByteArray)]) (ok := fun _ => True) (okp := fun _ => True) ?hr ?hp (fun _ hk => hk) trivial (Below.refl _ _) (Nat.le_refl _) (by simp) ?_; (case hd => rfl); (case hg => rfl); (case hr => first | (go_simp; done) | (go_simp; rfl)); (case hp => exact (Reps.c6 (show Kd.M k108 _ _ _ (⟨(⟨#[108, 105]⟩ : ByteArray), (⟨#[97, 105]⟩ : ByteArray), (-131072), 131071, (⟨#[]⟩ : ByteArray), (⟨#[97]⟩ : ByteArray)⟩ : S108) [.string (⟨#[108, 105]⟩ : ByteArray), .string (⟨#[97, 105]⟩ : ByteArray), .int .i64 (-131072), .int .i64 131071, .string (⟨#[]⟩ : ByteArray), .string (⟨#[97]⟩ : ByteArray)] from (k108_mkM _ _ _ (⟨(⟨#[108, 105]⟩ : ByteArray), (⟨#[97, 105]⟩ : ByteArray), (-131072), 131071, (⟨#[]⟩ : ByteArray), (⟨#[97]⟩ : ByteArray)⟩ : S108) )) (Reps.c6 (show Kd.M k108 _ _ _ (⟨(⟨#[97, 100, 100, 105]⟩ : ByteArray), (⟨#[97, 98, 105]⟩ : ByteArray), (-131072), 131071, (⟨#[98]⟩ : ByteArray), (⟨#[97]⟩ : ByteArray)⟩ : S108) [.string (⟨#[97, 100, 100, 105]⟩ : ByteArray), .string (⟨#[97, 98, 105]⟩ : ByteArray), .int .i64 (-131072), .int .i64 131071, .string (⟨#[98]⟩ : ByteArray), .string (⟨#[97]⟩ : ByteArray)] from (k108_mkM _ _ _ (⟨(⟨#[97, 100, 100, 105]⟩ : ByteArray), (⟨#[97, 98, 105]⟩ : ByteArray), (-131072), 131071, (⟨#[98]⟩ : ByteArray), (⟨#[97]⟩ : ByteArray)⟩ : S108) )) (Reps.c6 (show Kd.M k108 _ _ _ (⟨(⟨#[115, 104, 108, 105]⟩ : ByteArray), (⟨#[97, 98, 105]⟩ : ByteArray), 0, 31, (⟨#[98]⟩ : ByteArray), (⟨#[97]⟩ : ByteArray)⟩ : S108) [.string (⟨#[115, 104, 108, 105]⟩ : ByteArray), .string (⟨#[97, 98, 105]⟩ : ByteArray), .int .i64 0, .int .i64 31, .string (⟨#[98]⟩ : ByteArray), .string (⟨#[97]⟩ : ByteArray)] from (k108_mkM _ _ _ (⟨(⟨#[115, 104, 108, 105]⟩ : ByteArray), (⟨#[97, 98, 105]⟩ : ByteArray), 0, 31, (⟨#[98]⟩ : ByteArray), (⟨#[97]⟩ : ByteArray)⟩ : S108) )) (Reps.c6 (show Kd.M k108 _ _ _ (⟨(⟨#[111, 114, 105]⟩ : ByteArray), (⟨#[97, 98, 105]⟩ : ByteArray), 0, 16383, (⟨#[98]⟩ : ByteArray), (⟨#[97]⟩ : ByteArray)⟩ : S108) [.string (⟨#[111, 114, 105]⟩ : ByteArray), .string (⟨#[97, 98, 105]⟩ : ByteArray), .int .i64 0, .int .i64 16383, .string (⟨#[98]⟩ : ByteArray), .string (⟨#[97]⟩ : ByteArray)] from (k108_mkM _ _ _ (⟨(⟨#[111, 114, 105]⟩ : ByteArray), (⟨#[97, 98, 105]⟩ : ByteArray), 0, 16383, (⟨#[98]⟩ : ByteArray), (⟨#[97]⟩ : ByteArray)⟩ : S108) )) (Reps.c6 (show Kd.M k108 _ _ _ (⟨(⟨#[108, 100]⟩ : ByteArray), (⟨#[97, 98, 105]⟩ : ByteArray), (-131072), 131071, (⟨#[98]⟩ : ByteArray), (⟨#[97]⟩ : ByteArray)⟩ : S108) [.string (⟨#[108, 100]⟩ : ByteArray), .string (⟨#[97, 98, 105]⟩ : ByteArray), .int .i64 (-131072), .int .i64 131071, .string (⟨#[98]⟩ : ByteArray), .string (⟨#[97]⟩ : ByteArray)] from (k108_mkM _ _ _ (⟨(⟨#[108, 100]⟩ : ByteArray), (⟨#[97, 98, 105]⟩ : ByteArray), (-131072), 131071, (⟨#[98]⟩ : ByteArray), (⟨#[97]⟩ : ByteArray)⟩ : S108) )) (Reps.c6 (show Kd.M k108 _ _ _ (⟨(⟨#[115, 116]⟩ : ByteArray), (⟨#[97, 98, 105]⟩ : ByteArray), (-131072), 131071, (⟨#[97, 98]⟩ : ByteArray), (⟨#[]⟩ : ByteArray)⟩ : S108) [.string (⟨#[115, 116]⟩ : ByteArray), .string (⟨#[97, 98, 105]⟩ : ByteArray), .int .i64 (-131072), .int .i64 131071, .string (⟨#[97, 98]⟩ : ByteArray), .string (⟨#[]⟩ : ByteArray)] from (k108_mkM _ _ _ (⟨(⟨#[115, 116]⟩ : ByteArray), (⟨#[97, 98, 105]⟩ : ByteArray), (-131072), 131071, (⟨#[97, 98]⟩ : ByteArray), (⟨#[]⟩ : ByteArray)⟩ : S108) )) (Reps.c6 (show Kd.M k108 _ _ _ (⟨(⟨#[108, 100, 115]⟩ : ByteArray), (⟨#[97, 98, 105]⟩ : ByteArray), (-131072), 131071, (⟨#[98]⟩ : ByteArray), (⟨#[97]⟩ : ByteArray)⟩ : S108) [.string (⟨#[108, 100, 115]⟩ : ByteArray), .string (⟨#[97, 98, 105]⟩ : ByteArray), .int .i64 (-131072), .int .i64 131071, .string (⟨#[98]⟩ : ByteArray), .string (⟨#[97]⟩ : ByteArray)] from (k108_mkM _ _ _ (⟨(⟨#[108, 100, 115]⟩ : ByteArray), (⟨#[97, 98, 105]⟩ : ByteArray), (-131072), 131071, (⟨#[98]⟩ : ByteArray), (⟨#[97]⟩ : ByteArray)⟩ : S108) )) (Reps.c6 (show Kd.M k108 _ _ _ (⟨(⟨#[115, 116, 115]⟩ : ByteArray), (⟨#[97, 98, 105]⟩ : ByteArray), (-131072), 131071, (⟨#[97, 98]⟩ : ByteArray), (⟨#[]⟩ : ByteArray)⟩ : S108) [.string (⟨#[115, 116, 115]⟩ : ByteArray), .string (⟨#[97, 98, 105]⟩ : ByteArray), .int .i64 (-131072), .int .i64 131071, .string (⟨#[97, 98]⟩ : ByteArray), .string (⟨#[]⟩ : ByteArray)] from (k108_mkM _ _ _ (⟨(⟨#[115, 116, 115]⟩ : ByteArray), (⟨#[97, 98, 105]⟩ : ByteArray), (-131072), 131071, (⟨#[97, 98]⟩ : ByteArray), (⟨#[]⟩ : ByteArray)⟩ : S108) )) (Reps.c6 (show Kd.M k108 _ _ _ (⟨(⟨#[98, 101, 113, 122]⟩ : ByteArray), (⟨#[97, 105]⟩ : ByteArray), (-131072), 131071, (⟨#[97]⟩ : ByteArray), (⟨#[]⟩ : ByteArray)⟩ : S108) [.string (⟨#[98, 101, 113, 122]⟩ : ByteArray), .string (⟨#[97, 105]⟩ : ByteArray), .int .i64 (-131072), .int .i64 131071, .string (⟨#[97]⟩ : ByteArray), .string (⟨#[]⟩ : ByteArray)] from (k108_mkM _ _ _ (⟨(⟨#[98, 101, 113, 122]⟩ : ByteArray), (⟨#[97, 105]⟩ : ByteArray), (-131072), 131071, (⟨#[97]⟩ : ByteArray), (⟨#[]⟩ : ByteArray)⟩ : S108) )) (Reps.c6 (show Kd.M k108 _ _ _ (⟨(⟨#[98, 110, 101, 122]⟩ : ByteArray), (⟨#[97, 105]⟩ : ByteArray), (-131072), 131071, (⟨#[97]⟩ : ByteArray), (⟨#[]⟩ : ByteArray)⟩ : S108) [.string (⟨#[98, 110, 101, 122]⟩ : ByteArray), .string (⟨#[97, 105]⟩ : ByteArray), .int .i64 (-131072), .int .i64 131071, .string (⟨#[97]⟩ : ByteArray), .string (⟨#[]⟩ : ByteArray)] from (k108_mkM _ _ _ (⟨(⟨#[98, 110, 101, 122]⟩ : ByteArray), (⟨#[97, 105]⟩ : ByteArray), (-131072), 131071, (⟨#[97]⟩ : ByteArray), (⟨#[]⟩ : ByteArray)⟩ : S108) )) (Reps.c6 (show Kd.M k108 _ _ _ (⟨(⟨#[106, 109, 112]⟩ : ByteArray), (⟨#[105]⟩ : ByteArray), (-131072), 131071, (⟨#[]⟩ : ByteArray), (⟨#[]⟩ : ByteArray)⟩ : S108) [.string (⟨#[106, 109, 112]⟩ : ByteArray), .string (⟨#[105]⟩ : ByteArray), .int .i64 (-131072), .int .i64 131071, .string (⟨#[]⟩ : ByteArray), .string (⟨#[]⟩ : ByteArray)] from (k108_mkM _ _ _ (⟨(⟨#[106, 109, 112]⟩ : ByteArray), (⟨#[105]⟩ : ByteArray), (-131072), 131071, (⟨#[]⟩ : ByteArray), (⟨#[]⟩ : ByteArray)⟩ : S108) )) (Reps.c6 (show Kd.M k108 _ _ _ (⟨(⟨#[98, 111, 117, 110, 100]⟩ : ByteArray), (⟨#[97, 105]⟩ : ByteArray), 1, 131071, (⟨#[97]⟩ : ByteArray), (⟨#[]⟩ : ByteArray)⟩ : S108) [.string (⟨#[98, 111, 117, 110, 100]⟩ : ByteArray), .string (⟨#[97, 105]⟩ : ByteArray), .int .i64 1, .int .i64 131071, .string (⟨#[97]⟩ : ByteArray), .string (⟨#[]⟩ : ByteArray)] from (k108_mkM _ _ _ (⟨(⟨#[98, 111, 117, 110, 100]⟩ : ByteArray), (⟨#[97, 105]⟩ : ByteArray), 1, 131071, (⟨#[97]⟩ : ByteArray), (⟨#[]⟩ : ByteArray)⟩ : S108) )) (Reps.c6 (show Kd.M k108 _ _ _ (⟨(⟨#[105, 110]⟩ : ByteArray), (⟨#[97, 105]⟩ : ByteArray), 0, 7, (⟨#[]⟩ : ByteArray), (⟨#[97]⟩ : ByteArray)⟩ : S108) [.string (⟨#[105, 110]⟩ : ByteArray), .string (⟨#[97, 105]⟩ : ByteArray), .int .i64 0, .int .i64 7, .string (⟨#[]⟩ : ByteArray), .string (⟨#[97]⟩ : ByteArray)] from (k108_mkM _ _ _ (⟨(⟨#[105, 110]⟩ : ByteArray), (⟨#[97, 105]⟩ : ByteArray), 0, 7, (⟨#[]⟩ : ByteArray), (⟨#[97]⟩ : ByteArray)⟩ : S108) )) (Reps.c6 (show Kd.M k108 _ _ _ (⟨(⟨#[111, 117, 116]⟩ : ByteArray), (⟨#[97, 105]⟩ : ByteArray), 0, 7, (⟨#[97]⟩ : ByteArray), (⟨#[]⟩ : ByteArray)⟩ : S108) [.string (⟨#[111, 117, 116]⟩ : ByteArray), .string (⟨#[97, 105]⟩ : ByteArray), .int .i64 0, .int .i64 7, .string (⟨#[97]⟩ : ByteArray), .string (⟨#[]⟩ : ByteArray)] from (k108_mkM _ _ _ (⟨(⟨#[111, 117, 116]⟩ : ByteArray), (⟨#[97, 105]⟩ : ByteArray), 0, 7, (⟨#[97]⟩ : ByteArray), (⟨#[]⟩ : ByteArray)⟩ : S108) )) (Reps.c6 (show Kd.M k108 _ _ _ (⟨(⟨#[108, 111, 99, 107]⟩ : ByteArray), (⟨#[105]⟩ : ByteArray), 0, 3, (⟨#[]⟩ : ByteArray), (⟨#[]⟩ : ByteArray)⟩ : S108) [.string (⟨#[108, 111, 99, 107]⟩ : ByteArray), .string (⟨#[105]⟩ : ByteArray), .int .i64 0, .int .i64 3, .string (⟨#[]⟩ : ByteArray), .string (⟨#[]⟩ : ByteArray)] from (k108_mkM _ _ _ (⟨(⟨#[108, 111, 99, 107]⟩ : ByteArray), (⟨#[105]⟩ : ByteArray), 0, 3, (⟨#[]⟩ : ByteArray), (⟨#[]⟩ : ByteArray)⟩ : S108) )) (Reps.c6 (show Kd.M k108 _ _ _ (⟨(⟨#[117, 110, 108, 111, 99, 107]⟩ : ByteArray), (⟨#[105]⟩ : ByteArray), 0, 3, (⟨#[]⟩ : ByteArray), (⟨#[]⟩ : ByteArray)⟩ : S108) [.string (⟨#[117, 110, 108, 111, 99, 107]⟩ : ByteArray), .string (⟨#[105]⟩ : ByteArray), .int .i64 0, .int .i64 3, .string (⟨#[]⟩ : ByteArray), .string (⟨#[]⟩ : ByteArray)] from (k108_mkM _ _ _ (⟨(⟨#[117, 110, 108, 111, 99, 107]⟩ : ByteArray), (⟨#[105]⟩ : ByteArray), 0, 3, (⟨#[]⟩ : ByteArray), (⟨#[]⟩ : ByteArray)⟩ : S108) )) (Reps.none _ _)))))))))))))))))); intro v254 w12 ho13 hb hg_ hnew_; clear hg_ hnew_; (first | rw [← Ny253.out] at ho13 | (simp only [Int.reduceToNat] at ho13; rw [← Ny253.out] at ho13)); have n0_ := Aside0.mk (Kd.R_elder' (by (with_reducible repeat (first | apply Kd.R_alloc | apply Kd.R_drewN | apply Kd.R_drew)); exact HO_1.out) (Kd.R_base ho13) hb); have n1_ := Aside0.mk (Kd.R_below (by (with_reducible repeat (first | apply Kd.R_alloc | apply Kd.R_drewN | apply Kd.R_drew)); exact HO_7.out) hb); have n2_ := Aside0.mk (Kd.R_lower (Kd.R_new' ho13 (Kd.R_lt (by (with_reducible repeat (first | apply Kd.R_alloc | apply Kd.R_drewN | apply Kd.R_drew)); exact HO_1.out))) (below_size (by repeat (first | (with_reducible first | exact HB.out | apply below_alloc | apply pw_below_drewN | apply below_drew1) | exact HB.out)))); have n3_ := Aside0.mk (below_step (by repeat (first | (with_reducible first | exact HB.out | apply below_alloc | apply pw_below_drewN | apply below_drew1) | exact HB.out)) hb); clear HO_1; clear HO_7; clear HB; have HO_1 := n0_; have HO_7 := n1_; have HO255 := n2_; have HB := n3_; clear n0_ n1_ n2_ n3_; clear hb ho13; obtain ⟨Ao15, co15, eo15⟩ := Kd.R_slice HO255.out; subst eo15) | ((with_reducible refine gate_builtin (b := .append) (xs := #[.tmp 19, .tmp 36]) rfl ?_); at_builtin; refine Kd.R_append_rows k108 (w0 := w) w.heap.size rfl (.tmp 19) (.tmp 36) 150 108 (.agg #[(.string ⟨#[]⟩), (.string ⟨#[]⟩), (.int .i64 0), (.int .i64 0), (.string ⟨#[]⟩), (.string ⟨#[]⟩)]) 80 rfl Try.underlying150 info108 rfl (by decide) (by omega) u1 x1_1 y253 _ _ _ (fun k_ => some k_ ≠ (.slice Ao15 y253.length co15 : Value).ownBlock) (fun _ => False) rfl rfl ?aO ?aR (fun _ _ h => h) (fun _ h => h.elim) ?aF ?aB ?aS ?aL ?_; (case aR => repeat (first | exact (Kd.R_reads' HO255.out).2.2 | (with_reducible refine Kd.C_alloc ?_ _) | (with_reducible refine Kd.C_drewN ?_ _) | (with_reducible refine Kd.C_drew ?_))); (case aB => exact (by repeat (first | (with_reducible first | exact HB.out | apply below_alloc | apply pw_below_drewN | apply below_drew1) | exact HB.out))); (case aF => exact (fun k_ hk => Kd.fresh' (Kd.R_lt (by (with_reducible repeat (first | apply Kd.R_alloc | apply Kd.R_drewN | apply Kd.R_drew)); exact HO255.out)) k_ hk)); (case aO => exact (by (with_reducible repeat (first | apply Kd.R_alloc | apply Kd.R_drewN | apply Kd.R_drew)); exact Kd.R_mono HO_1.out (fun _ hk => hk.2))); (case aS => exact (below_size (by repeat (first | (with_reducible first | exact HB.out | apply below_alloc | apply pw_below_drewN | apply below_drew1) | exact HB.out)))); (case aL => have := LMc11.out; omega); intro v257 w14 ho hb hg hat; rw [← Ny256.out] at ho; have n0_ := Aside0.mk (Kd.R_over' (by (with_reducible repeat (first | apply Kd.R_alloc | apply Kd.R_drewN | apply Kd.R_drew)); exact HO_7.out) (Kd.R_typed (by (with_reducible repeat (first | apply Kd.R_alloc | apply Kd.R_drewN | apply Kd.R_drew)); exact HO_1.out)) (by decide) hg); have n1_ := Aside0.mk (Kd.R_after (ok := (fun _ => True)) (by (with_reducible repeat (first | apply Kd.R_alloc | apply Kd.R_drewN | apply Kd.R_drew)); exact HO255.out) hg hat); have n2_ := Aside0.mk (hb); have n3_ := Aside0.mk (ho); clear HO_7; clear HO255; clear HB; clear HO_1; have HO_7 := n0_; have HO255 := n1_; have HB := n2_; have HO258 := n3_; clear n0_ n1_ n2_ n3_; clear ho hb hg hat))
          go_ret
          exact ⟨_, by first | rfl | (simp [errW_none, errW_some] <;> rfl) | (simp [*, errW_none, errW_some] <;> rfl), by (with_reducible repeat (first | apply Kd.R_alloc | apply Kd.R_drewN | apply Kd.R_drew)); exact Kd.R_mono HO258.out (fun _ hk => trivial), by repeat (first | (with_reducible first | exact HB.out | apply below_alloc | apply pw_below_drewN | apply below_drew1) | exact HB.out)⟩
        · rw [if_neg c11] at H
          exact absurd H (by simp)
end Go.Proofs.Ytadaopfcgpfiiaa.PCg
