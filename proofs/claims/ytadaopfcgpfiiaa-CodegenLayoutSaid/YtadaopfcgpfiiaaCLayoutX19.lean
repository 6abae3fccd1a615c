/- Lemmas, part 19: what the theorem of the last text needs, joined by a program out of the seat's texts A1, B1, A2, A3, A4, A5, B2, B3, B4, C8. -/
import Derived.Test.YtadaopfcgpfiiaaCLayoutX13
import Derived.Test.YtadaopfcgpfiiaaCLayoutX14
import Derived.Test.YtadaopfcgpfiiaaCLayoutX15
import Derived.Test.YtadaopfcgpfiiaaCLayoutX16
namespace Go.Proofs.Ytadaopfcgpfiiaa
open Go.RowKit Go.Proofs.YtadaopfcgpfiiaaW.PrintWords Go.Proofs.YtadaopfcgpfiiaaW.PrintLast Go.Proofs.YtadaopfcgpfiiaaW.PrintMore PCg
set_option linter.unusedVariables false
set_option linter.unusedSimpArgs false
set_option maxRecDepth 100000 in
set_option maxHeartbeats 1000000 in
theorem indexFuncArr_any (A : Option Addr) (c : Nat) (xs : List S44) (p : S44 → Bool) (f : FuncId) (cap : Array Value) (w : World)
    (hr : Kd.C k44 w A xs.length xs) (hcp : xs.length ≤ c) (hm : xs.length ≤ 9223372036854775806)
    (hcf : ∀ (args : Array Value) (W : World), (callFunc f args).run Try.prog W = .ok (.enter f args) W)
    (hf : ∀ (x : S44) (W : World), x ∈ xs → Below w.heap.size w W → Calls Try.prog f (#[.agg #[.string x.f0, .int .i64 x.f1]] ++ cap) W fun e W' => e = .returned (.bool (p x)) ∧ Below W.heap.size W W') :
    Calls Try.prog 78 #[.slice A xs.length c, .func (.func f) #[] cap] w fun e w' => e = .returned (.int .i64 (ixf p xs)) ∧ Below w.heap.size w w' := by
  have HR := Aside0.mk hr; clear hr
  have HF := Aside0.mk hf; clear hf
  have hu := Try.underlying44
  go_enter Try.func78, Try.ntmps78
  go_wp2
  go_loopw [8] (fun i wr => ∃ k : Int, i = .int .i64 k ∧ 0 ≤ k ∧ k ≤ xs.length ∧ Aside0 (∀ j, ∀ hj : j < xs.length, (j : Int) < k → p xs[j] = false) ∧ Aside0 (Below w.heap.size w wr)) (fun i wr => xs.length - (intOf i).toNat)
  case atStart => exact ⟨0, rfl, Int.le_refl _, by omega, ⟨fun j _ hj => by omega⟩, ⟨Below.refl _ _⟩⟩
  case round =>
    obtain ⟨k, rfl, hk0, hk, HN, HB⟩ := hrel
    by_cases hlt : k < xs.length
    · obtain ⟨ad, hA, h0, h1⟩ := at_T44 HR.out k hk0 hlt
      cases hA
      replace h0 := (HB.out.cell (World.block_lt_of_cell? w _ h0)).trans h0
      replace h1 := (HB.out.cell (World.block_lt_of_cell? w _ h1)).trans h1
      have p110 := eq_true hk0
      have q110 := eq_true hlt
      go_wp2_with fail
      refine (HF.out (rd_T44 xs k) _ (by simp only [rd_T44, List.getD_eq_getElem?_getD]; rw [List.getElem?_eq_getElem (by omega)]; simp) HB.out).mono ?_
      rintro e w1 ⟨rfl, hb1⟩
      have HB1 := Aside0.mk (below_step HB.out hb1); clear hb1 HB
      have HX := Aside0.mk (show rd_T44 xs k = xs[k.toNat]'(by omega) from by simp [rd_T44, show k.toNat < xs.length from by omega])
      by_cases hp : p (rd_T44 xs k) = true
      · have HP := Aside0.mk hp
        go_wp2
        go_ret
        have := ixf_some (k := k.toNat) (by omega) (fun j hj hlt => HN.out j hj (by omega)) (by rw [← HX.out]; exact HP.out)
        exact ⟨reti (by rw [this]; omega), HB1.out⟩
      · have hp0 : p (rd_T44 xs k) = false := by simpa using hp
        have HP := Aside0.mk hp0
        clear hp
        go_wp2
        go_roundw
        case rel =>
          refine ⟨k + 1, rfl, by omega, by omega, ⟨fun j hj hlt => ?_⟩, HB1⟩
          by_cases e : (j : Int) < k
          · exact HN.out j hj e
          · have : j = k.toNat := by clear HN HF HR; omega
            subst this
            rw [← HX.out]; exact HP.out
        case measure => simp [intOf]; omega
    · go_wp2
      go_ret
      exact ⟨by rw [ixf_none (fun j hj => HN.out j hj (by omega))]; rfl, HB.out⟩
set_option maxHeartbeats 400000 in
theorem containsFuncArr_any (A : Option Addr) (c : Nat) (xs : List S44) (p : S44 → Bool) (f : FuncId) (cap : Array Value) (w : World)
    (hr : Kd.C k44 w A xs.length xs) (hcp : xs.length ≤ c) (hm : xs.length ≤ 9223372036854775806)
    (hcf : ∀ (args : Array Value) (W : World), (callFunc f args).run Try.prog W = .ok (.enter f args) W)
    (hf : ∀ (x : S44) (W : World), x ∈ xs → Below w.heap.size w W → Calls Try.prog f (#[.agg #[.string x.f0, .int .i64 x.f1]] ++ cap) W fun e W' => e = .returned (.bool (p x)) ∧ Below W.heap.size W W') :
    Calls Try.prog 52 #[.slice A xs.length c, .func (.func f) #[] cap] w fun e w' => e = .returned (.bool (xs.any p)) ∧ Below w.heap.size w w' := by
  have HI := Aside0.mk (indexFuncArr_any A c xs p f cap w hr hcp hm hcf hf)
  clear hr hcf hf
  have hb := ixf_range p xs
  have HE := Aside0.mk (ixf_ge p xs)
  go_enter Try.func52, Try.ntmps52
  go_wp2_with fail
  refine HI.out.mono ?_
  rintro e w1 ⟨rfl, hb1⟩
  have HB1 := Aside0.mk hb1; clear hb1
  go_wp2
  go_ret
  exact ⟨retb HE.out, HB1.out⟩
set_option maxRecDepth 100000 in
set_option maxHeartbeats 1000000 in
theorem indexFuncIns_any (A : Option Addr) (c : Nat) (xs : List S51) (p : S51 → Bool) (f : FuncId) (cap : Array Value) (w : World)
    (hr : Kd.C k51 w A xs.length xs) (hcp : xs.length ≤ c) (hm : xs.length ≤ 9223372036854775806)
    (hcf : ∀ (args : Array Value) (W : World), (callFunc f args).run Try.prog W = .ok (.enter f args) W)
    (hf : ∀ (x : S51) (W : World), x ∈ xs → Below w.heap.size w W → Calls Try.prog f (#[.agg #[.int .u8 x.f0, .int .i64 x.f1, .int .i64 x.f2, .int .i64 x.f3, .int .i64 x.f4, .string x.f5]] ++ cap) W fun e W' => e = .returned (.bool (p x)) ∧ Below W.heap.size W W') :
    Calls Try.prog 55 #[.slice A xs.length c, .func (.func f) #[] cap] w fun e w' => e = .returned (.int .i64 (ixf p xs)) ∧ Below w.heap.size w w' := by
  have HR := Aside0.mk hr; clear hr
  have HF := Aside0.mk hf; clear hf
  have hu := Try.underlying51
  go_enter Try.func55, Try.ntmps55
  go_wp2
  go_loopw [8] (fun i wr => ∃ k : Int, i = .int .i64 k ∧ 0 ≤ k ∧ k ≤ xs.length ∧ Aside0 (∀ j, ∀ hj : j < xs.length, (j : Int) < k → p xs[j] = false) ∧ Aside0 (Below w.heap.size w wr)) (fun i wr => xs.length - (intOf i).toNat)
  case atStart => exact ⟨0, rfl, Int.le_refl _, by omega, ⟨fun j _ hj => by omega⟩, ⟨Below.refl _ _⟩⟩
  case round =>
    obtain ⟨k, rfl, hk0, hk, HN, HB⟩ := hrel
    by_cases hlt : k < xs.length
    · obtain ⟨ad, hA, h0, h1, h2, h3, h4, h5⟩ := at_T51 HR.out k hk0 hlt
      cases hA
      replace h0 := (HB.out.cell (World.block_lt_of_cell? w _ h0)).trans h0
      replace h1 := (HB.out.cell (World.block_lt_of_cell? w _ h1)).trans h1
      replace h2 := (HB.out.cell (World.block_lt_of_cell? w _ h2)).trans h2
      replace h3 := (HB.out.cell (World.block_lt_of_cell? w _ h3)).trans h3
      replace h4 := (HB.out.cell (World.block_lt_of_cell? w _ h4)).trans h4
      replace h5 := (HB.out.cell (World.block_lt_of_cell? w _ h5)).trans h5
      have p110 := eq_true hk0
      have q110 := eq_true hlt
      go_wp2_with fail
      refine (HF.out (rd_T51 xs k) _ (by simp only [rd_T51, List.getD_eq_getElem?_getD]; rw [List.getElem?_eq_getElem (by omega)]; simp) HB.out).mono ?_
      rintro e w1 ⟨rfl, hb1⟩
      have HB1 := Aside0.mk (below_step HB.out hb1); clear hb1 HB
      have HX := Aside0.mk (show rd_T51 xs k = xs[k.toNat]'(by omega) from by simp [rd_T51, show k.toNat < xs.length from by omega])
      by_cases hp : p (rd_T51 xs k) = true
      · have HP := Aside0.mk hp
        go_wp2
        go_ret
        have := ixf_some (k := k.toNat) (by omega) (fun j hj hlt => HN.out j hj (by omega)) (by rw [← HX.out]; exact HP.out)
        exact ⟨reti (by rw [this]; omega), HB1.out⟩
      · have hp0 : p (rd_T51 xs k) = false := by simpa using hp
        have HP := Aside0.mk hp0
        clear hp
        go_wp2
        go_roundw
        case rel =>
          refine ⟨k + 1, rfl, by omega, by omega, ⟨fun j hj hlt => ?_⟩, HB1⟩
          by_cases e : (j : Int) < k
          · exact HN.out j hj e
          · have : j = k.toNat := by clear HN HF HR; omega
            subst this
            rw [← HX.out]; exact HP.out
        case measure => simp [intOf]; omega
    · go_wp2
      go_ret
      exact ⟨by rw [ixf_none (fun j hj => HN.out j hj (by omega))]; rfl, HB.out⟩
set_option maxHeartbeats 400000 in
theorem containsFuncIns_any (A : Option Addr) (c : Nat) (xs : List S51) (p : S51 → Bool) (f : FuncId) (cap : Array Value) (w : World)
    (hr : Kd.C k51 w A xs.length xs) (hcp : xs.length ≤ c) (hm : xs.length ≤ 9223372036854775806)
    (hcf : ∀ (args : Array Value) (W : World), (callFunc f args).run Try.prog W = .ok (.enter f args) W)
    (hf : ∀ (x : S51) (W : World), x ∈ xs → Below w.heap.size w W → Calls Try.prog f (#[.agg #[.int .u8 x.f0, .int .i64 x.f1, .int .i64 x.f2, .int .i64 x.f3, .int .i64 x.f4, .string x.f5]] ++ cap) W fun e W' => e = .returned (.bool (p x)) ∧ Below W.heap.size W W') :
    Calls Try.prog 33 #[.slice A xs.length c, .func (.func f) #[] cap] w fun e w' => e = .returned (.bool (xs.any p)) ∧ Below w.heap.size w w' := by
  have HI := Aside0.mk (indexFuncIns_any A c xs p f cap w hr hcp hm hcf hf)
  clear hr hcf hf
  have hb := ixf_range p xs
  have HE := Aside0.mk (ixf_ge p xs)
  go_enter Try.func33, Try.ntmps33
  go_wp2_with fail
  refine HI.out.mono ?_
  rintro e w1 ⟨rfl, hb1⟩
  have HB1 := Aside0.mk hb1; clear hb1
  go_wp2
  go_ret
  exact ⟨retb HE.out, HB1.out⟩
set_option maxRecDepth 100000 in
set_option maxHeartbeats 1000000 in
theorem indexFuncInt_any (A : Option Addr) (c : Nat) (xs : List Int) (p : Int → Bool) (f : FuncId) (cap : Array Value) (w : World)
    (hr : Kd.C (Kd.int .i64) w A xs.length xs) (hcp : xs.length ≤ c) (hm : xs.length ≤ 9223372036854775806)
    (hcf : ∀ (args : Array Value) (W : World), (callFunc f args).run Try.prog W = .ok (.enter f args) W)
    (hf : ∀ (x : Int) (W : World), x ∈ xs → Below w.heap.size w W → Calls Try.prog f (#[.int .i64 x] ++ cap) W fun e W' => e = .returned (.bool (p x)) ∧ Below W.heap.size W W') :
    Calls Try.prog 117 #[.slice A xs.length c, .func (.func f) #[] cap] w fun e w' => e = .returned (.int .i64 (ixf p xs)) ∧ Below w.heap.size w w' := by
  have HR := Aside0.mk hr; clear hr
  have HF := Aside0.mk hf; clear hf

  go_enter Try.func117, Try.ntmps117
  go_wp2
  go_loopw [8] (fun i wr => ∃ k : Int, i = .int .i64 k ∧ 0 ≤ k ∧ k ≤ xs.length ∧ Aside0 (∀ j, ∀ hj : j < xs.length, (j : Int) < k → p xs[j] = false) ∧ Aside0 (Below w.heap.size w wr)) (fun i wr => xs.length - (intOf i).toNat)
  case atStart => exact ⟨0, rfl, Int.le_refl _, by omega, ⟨fun j _ hj => by omega⟩, ⟨Below.refl _ _⟩⟩
  case round =>
    obtain ⟨k, rfl, hk0, hk, HN, HB⟩ := hrel
    by_cases hlt : k < xs.length
    · obtain ⟨ad, hA, h0⟩ := Kd.at_int HR.out k hk0 hlt
      cases hA
      replace h0 := (HB.out.cell (World.block_lt_of_cell? w _ h0)).trans h0
      have p110 := eq_true hk0
      have q110 := eq_true hlt
      go_wp2_with fail
      refine (HF.out (rd xs k) _ (by simp only [rd, List.getD_eq_getElem?_getD]; rw [List.getElem?_eq_getElem (by omega)]; simp) HB.out).mono ?_
      rintro e w1 ⟨rfl, hb1⟩
      have HB1 := Aside0.mk (below_step HB.out hb1); clear hb1 HB
      have HX := Aside0.mk (show rd xs k = xs[k.toNat]'(by omega) from by simp [rd, show k.toNat < xs.length from by omega])
      by_cases hp : p (rd xs k) = true
      · have HP := Aside0.mk hp
        go_wp2
        go_ret
        have := ixf_some (k := k.toNat) (by omega) (fun j hj hlt => HN.out j hj (by omega)) (by rw [← HX.out]; exact HP.out)
        exact ⟨reti (by rw [this]; omega), HB1.out⟩
      · have hp0 : p (rd xs k) = false := by simpa using hp
        have HP := Aside0.mk hp0
        clear hp
        go_wp2
        go_roundw
        case rel =>
          refine ⟨k + 1, rfl, by omega, by omega, ⟨fun j hj hlt => ?_⟩, HB1⟩
          by_cases e : (j : Int) < k
          · exact HN.out j hj e
          · have : j = k.toNat := by clear HN HF HR; omega
            subst this
            rw [← HX.out]; exact HP.out
        case measure => simp [intOf]; omega
    · go_wp2
      go_ret
      exact ⟨by rw [ixf_none (fun j hj => HN.out j hj (by omega))]; rfl, HB.out⟩
set_option maxHeartbeats 400000 in
theorem containsFuncInt_any (A : Option Addr) (c : Nat) (xs : List Int) (p : Int → Bool) (f : FuncId) (cap : Array Value) (w : World)
    (hr : Kd.C (Kd.int .i64) w A xs.length xs) (hcp : xs.length ≤ c) (hm : xs.length ≤ 9223372036854775806)
    (hcf : ∀ (args : Array Value) (W : World), (callFunc f args).run Try.prog W = .ok (.enter f args) W)
    (hf : ∀ (x : Int) (W : World), x ∈ xs → Below w.heap.size w W → Calls Try.prog f (#[.int .i64 x] ++ cap) W fun e W' => e = .returned (.bool (p x)) ∧ Below W.heap.size W W') :
    Calls Try.prog 105 #[.slice A xs.length c, .func (.func f) #[] cap] w fun e w' => e = .returned (.bool (xs.any p)) ∧ Below w.heap.size w w' := by
  have HI := Aside0.mk (indexFuncInt_any A c xs p f cap w hr hcp hm hcf hf)
  clear hr hcf hf
  have hb := ixf_range p xs
  have HE := Aside0.mk (ixf_ge p xs)
  go_enter Try.func105, Try.ntmps105
  go_wp2_with fail
  refine HI.out.mono ?_
  rintro e w1 ⟨rfl, hb1⟩
  have HB1 := Aside0.mk hb1; clear hb1
  go_wp2
  go_ret
  exact ⟨retb HE.out, HB1.out⟩
end Go.Proofs.Ytadaopfcgpfiiaa
namespace Go.Proofs.Ytadaopfcgpfiiaa
open Go.RowKit Go.Proofs.YtadaopfcgpfiiaaW.PrintWords Go.Proofs.YtadaopfcgpfiiaaW.PrintLast Go.Proofs.YtadaopfcgpfiiaaW.PrintMore PCg
set_option linter.unusedVariables false
set_option linter.unusedSimpArgs false
set_option maxRecDepth 100000 in
set_option maxHeartbeats 1000000 in
theorem cloneInt_any (A : Option Addr) (c : Nat) (xs : List Int) (w : World) (hr : Kd.C (Kd.int .i64) w A xs.length xs) (hcp : xs.length ≤ c) (hm : xs.length * 8 ≤ 140737488355328) :
    Calls Try.prog 104 #[.slice A xs.length c] w fun e w' => ∃ v, e = .returned v ∧ Kd.R (Kd.int .i64) 3 w' w.heap.size (fun _ => True) v xs ∧ Below w.heap.size w w' := by
  have heq := fun W : World => Lib.run_eql_slice_nil (P := Try.prog) W 37 3 A xs.length c 0 0 Try.underlying37
  rcases A with _ | ad
  · obtain ⟨hl, _, hn⟩ := hr
    have h0 : xs = [] := by
      rcases Nat.eq_zero_or_pos xs.length with h0 | h0
      · exact List.eq_nil_of_length_eq_zero h0
      · obtain ⟨ad, h, _⟩ := hn h0
        cases h
    subst h0
    clear hn hl heq
    have heq := fun W : World => Lib.run_eql_slice_nil (P := Try.prog) W 37 3 none 0 c 0 0 Try.underlying37
    go_enter Try.func104, Try.ntmps104
    go_wp2
    go_ret
    exact ⟨_, rfl, Kd.R_nil _ _ _ _ _, Below.refl _ _⟩
  · have HR := Aside0.mk hr
    clear hr
    have HB0 : Aside0 (Below w.heap.size w (w.alloc (.cells #[] 3))) := ⟨(Below.refl _ _).alloc (Nat.le_refl _) _⟩
    have HO : Aside0 (Kd.R (Kd.int .i64) 3 (w.alloc (.cells #[] 3)) w.heap.size (fun _ => True) (.slice (some ⟨w.heap.size, 0, none⟩) 0 0) []) :=
      ⟨Kd.R_of_own (World.ownsRow_made w #[] 0 (Nat.le_refl _) (by simp) (by simp)) (fun _ _ => trivial)⟩
    go_enter Try.func104, Try.ntmps104
    go_wp2_with (at_builtin; refine Kd.R_append_row (Value.int .i64) 0 w.heap.size rfl (.tmp 5) (.tmp 6) 37 3 (.int .i64 0) 8 rfl Try.underlying37 info3 rfl (by decide) _ _ _ _ _ _ (fun _ => True) rfl rfl (fun _ _ => trivial) HO.out (Kd.C_below HR.out HB0.out) HB0.out (by simp) (by simpa using hm) ?_; intro v1 w1 hR1 hB1 hg1 hat1; have HR1 := Aside0.mk hR1; have HB1 := Aside0.mk hB1; clear hR1 hB1 hg1 hat1)
    go_ret
    exact ⟨_, rfl, HR1.out, HB1.out⟩
set_option maxRecDepth 100000 in
set_option maxHeartbeats 1000000 in
theorem cloneSet_any (A : Option Addr) (c : Nat) (xs : List Int) (w : World) (hr : Kd.C (Kd.int .u64) w A xs.length xs) (hcp : xs.length ≤ c) (hm : xs.length * 8 ≤ 140737488355328) :
    Calls Try.prog 109 #[.slice A xs.length c] w fun e w' => ∃ v, e = .returned v ∧ Kd.R (Kd.int .u64) 191 w' w.heap.size (fun _ => True) v xs ∧ Below w.heap.size w w' := by
  have heq := fun W : World => Lib.run_eql_slice_nil (P := Try.prog) W 159 191 A xs.length c 0 0 Try.underlying159
  rcases A with _ | ad
  · obtain ⟨hl, _, hn⟩ := hr
    have h0 : xs = [] := by
      rcases Nat.eq_zero_or_pos xs.length with h0 | h0
      · exact List.eq_nil_of_length_eq_zero h0
      · obtain ⟨ad, h, _⟩ := hn h0
        cases h
    subst h0
    clear hn hl heq
    have heq := fun W : World => Lib.run_eql_slice_nil (P := Try.prog) W 159 191 none 0 c 0 0 Try.underlying159
    go_enter Try.func109, Try.ntmps109
    go_wp2
    go_ret
    exact ⟨_, rfl, Kd.R_nil _ _ _ _ _, Below.refl _ _⟩
  · have HR := Aside0.mk hr
    clear hr
    have HB0 : Aside0 (Below w.heap.size w (w.alloc (.cells #[] 191))) := ⟨(Below.refl _ _).alloc (Nat.le_refl _) _⟩
    have HO : Aside0 (Kd.R (Kd.int .u64) 191 (w.alloc (.cells #[] 191)) w.heap.size (fun _ => True) (.slice (some ⟨w.heap.size, 0, none⟩) 0 0) []) :=
      ⟨Kd.R_of_own (World.ownsRow_made w #[] 0 (Nat.le_refl _) (by simp) (by simp)) (fun _ _ => trivial)⟩
    go_enter Try.func109, Try.ntmps109
    go_wp2_with (at_builtin; refine Kd.R_append_row (Value.int .u64) 0 w.heap.size rfl (.tmp 5) (.tmp 6) 159 191 (.int .u64 0) 8 rfl Try.underlying159 info191 rfl (by decide) _ _ _ _ _ _ (fun _ => True) rfl rfl (fun _ _ => trivial) HO.out (Kd.C_below HR.out HB0.out) HB0.out (by simp) (by simpa using hm) ?_; intro v1 w1 hR1 hB1 hg1 hat1; have HR1 := Aside0.mk hR1; have HB1 := Aside0.mk hB1; clear hR1 hB1 hg1 hat1)
    go_ret
    exact ⟨_, rfl, HR1.out, HB1.out⟩
end Go.Proofs.Ytadaopfcgpfiiaa
namespace Go.Proofs.Ytadaopfcgpfiiaa
open Go.RowKit Go.Proofs.YtadaopfcgpfiiaaW.PrintWords Go.Proofs.YtadaopfcgpfiiaaW.PrintLast Go.Proofs.YtadaopfcgpfiiaaW.PrintMore PCg
set_option linter.unusedVariables false
set_option linter.unusedSimpArgs false
/-- an operand that is used is a register, one that is not used is 0 -/
def regOk (u : Bool) (r n : Int) : Bool := if u then decide (0 ≤ r) && decide (r < n) else r == 0
set_option maxHeartbeats 400000 in
theorem register_any (u : Bool) (r n : Int) (w : World) :
    Calls Try.prog 57 #[.bool u, .int .i64 r, .int .i64 n] w fun e w' => e = .returned (.bool (regOk u r n)) ∧ w = w' := by
  cases u
  · go_enter Try.func57, Try.ntmps57
    go_wp2
    go_ret
    exact ⟨retb (by simp [regOk]), rfl⟩
  · go_enter Try.func57, Try.ntmps57
    go_wp2
    all_goals go_ret
    all_goals (refine ⟨retb ?_, rfl⟩)
    · have : 0 ≤ r := by assumption
      simp [regOk, this]
    · have : r < 0 := by assumption
      simp [regOk]; omega
/-- what an operation's operands are -/
structure Shp where
  d : Bool
  x : Bool
  y : Bool
  lo : Int
  hi : Int
  sym : Int
  ok : Bool
def shp (op : Int) : Shp :=
  if op = 1 then ⟨true, false, false, -2147483648, 2147483647, 0, true⟩ else if op = 2 then ⟨true, true, false, 0, 0, 0, true⟩ else
  if op = 3 then ⟨true, true, true, 6, 23, 0, true⟩ else if op = 4 then ⟨true, true, false, 0, 0, 1, true⟩ else
  if op = 5 then ⟨false, true, true, 0, 0, 1, true⟩ else if op = 6 then ⟨true, true, false, 0, 0, 2, true⟩ else
  if op = 7 then ⟨false, true, true, 0, 0, 2, true⟩ else if op = 8 then ⟨false, true, false, 1, 131071, 0, true⟩ else
  if op = 9 then ⟨true, false, false, 0, 7, 0, true⟩ else if op = 10 then ⟨false, true, false, 0, 7, 0, true⟩ else
  if op = 11 ∨ op = 12 then ⟨false, false, false, 0, 0, 2, true⟩ else if op = 13 ∨ op = 14 then ⟨false, false, false, 0, 3, 0, true⟩ else
  if op = 15 then ⟨true, false, false, 0, 3, 0, true⟩ else if op = 16 then ⟨false, false, false, 1, 131071, 0, true⟩ else ⟨false, false, false, 0, 0, 0, false⟩
theorem shapeOf_f (op : Int) : ir_shapeOf.f 3 op = some ((shp op).d, (shp op).x, (shp op).y, (shp op).lo, (shp op).hi, (shp op).sym, (shp op).ok) := by
  by_cases h : 1 ≤ op ∧ op ≤ 16
  · have h16 : op = 1 ∨ op = 2 ∨ op = 3 ∨ op = 4 ∨ op = 5 ∨ op = 6 ∨ op = 7 ∨ op = 8 ∨ op = 9 ∨ op = 10 ∨ op = 11 ∨ op = 12 ∨ op = 13 ∨ op = 14 ∨ op = 15 ∨ op = 16 := by omega
    rcases h16 with rfl | rfl | rfl | rfl | rfl | rfl | rfl | rfl | rfl | rfl | rfl | rfl | rfl | rfl | rfl | rfl <;> simp [ir_shapeOf.f, ir_shapeOf.j0, ir_shapeOf.j1, shp]
  · simp [ir_shapeOf.f, ir_shapeOf.j0, ir_shapeOf.j1, shp, show op ≠ 1 from by omega, show op ≠ 2 from by omega, show op ≠ 3 from by omega, show op ≠ 4 from by omega, show op ≠ 5 from by omega, show op ≠ 6 from by omega, show op ≠ 7 from by omega, show op ≠ 8 from by omega, show op ≠ 9 from by omega, show op ≠ 10 from by omega, show op ≠ 11 from by omega, show op ≠ 12 from by omega, show op ≠ 13 from by omega, show op ≠ 14 from by omega, show op ≠ 15 from by omega, show op ≠ 16 from by omega]
theorem shapeOf_any (op : Int) (w : World) :
    Calls Try.prog 56 #[.int .u8 op] w fun e w' => e = .returned (.tuple #[.agg #[.bool (shp op).d, .bool (shp op).x, .bool (shp op).y, .int .i64 (shp op).lo, .int .i64 (shp op).hi, .int .i64 (shp op).sym], .bool (shp op).ok]) ∧ Below w.heap.size w w' :=
  ir_shapeOf.calls 3 op _ _ _ _ _ _ _ w (shapeOf_f op)
/-- a list of arrays has one with a name -/
def hasName (l : List S44) (nm : ByteArray) : Bool := l.any fun a => a.f0.toList == nm.toList
set_option maxHeartbeats 400000 in
theorem has1_any (n nm : ByteArray) (l : Int) (b : Nat) (w : World) (hc : w.cell? ⟨b, 0, none⟩ = some (.string nm)) :
    Calls Try.prog 53 #[.agg #[.string n, .int .i64 l], .pointer (some ⟨b, 0, none⟩)] w fun e w' => e = .returned (.bool (n.toList == nm.toList)) ∧ Below w.heap.size w w' := by
  have hlt := World.block_lt_of_cell? w _ hc
  go_enter Try.func53, Try.ntmps53
  go_wp2
  go_ret
  exact ⟨rfl, (Below.refl _ _).alloc (Nat.le_refl _) _⟩
theorem callFunc_irHas1 (args : Array Value) (W : World) : (callFunc 53 args).run Try.prog W = .ok (.enter 53 args) W := by kernel_rfl
set_option maxHeartbeats 400000 in
theorem has_any (A : Option Addr) (c : Nat) (xs : List S44) (nm : ByteArray) (w : World) (hr : Kd.C k44 w A xs.length xs) (hcp : xs.length ≤ c) (hm : xs.length ≤ 9223372036854775806) :
    Calls Try.prog 31 #[.slice A xs.length c, .string nm] w fun e w' => e = .returned (.bool (hasName xs nm)) ∧ Below w.heap.size w w' := by
  have hb0 : Below w.heap.size w (w.alloc (.cells #[.string nm] 9)) := (Below.refl _ _).alloc (Nat.le_refl _) _
  have HC := Aside0.mk (containsFuncArr_any A c xs (fun a => a.f0.toList == nm.toList) 53 #[.pointer (some ⟨w.heap.size, 0, none⟩)] (w.alloc (.cells #[.string nm] 9))
    (Kd.C_below hr hb0) hcp hm callFunc_irHas1 (fun x W _ hW => has1_any x.f0 nm x.f1 w.heap.size W ((hW.cell (p := ⟨w.heap.size, 0, none⟩) (by simp)).trans (by simp))))
  have HB0 := Aside0.mk hb0
  clear hr hb0
  go_enter Try.func31, Try.ntmps31
  go_wp2_with fail
  refine HC.out.mono ?_
  rintro e w1 ⟨rfl, hb1⟩
  have HB1 := Aside0.mk (below_step HB0.out hb1); clear hb1
  go_wp2
  go_ret
  exact ⟨rfl, HB1.out⟩
theorem has_len (A : Option Addr) (c n : Nat) (xs : List S44) (nm : ByteArray) (w : World) (hn : xs.length = n) (hr : Kd.C k44 w A xs.length xs) (hcp : xs.length ≤ c) (hm : xs.length ≤ 9223372036854775806) :
    Calls Try.prog 31 #[.slice A n c, .string nm] w fun e w' => e = .returned (.bool (hasName xs nm)) ∧ Below w.heap.size w w' := by
  subst hn; exact has_any A c xs nm w hr hcp hm
end Go.Proofs.Ytadaopfcgpfiiaa
namespace Go.Proofs.Ytadaopfcgpfiiaa
open Go.RowKit Go.Proofs.YtadaopfcgpfiiaaW.PrintWords Go.Proofs.YtadaopfcgpfiiaaW.PrintLast Go.Proofs.YtadaopfcgpfiiaaW.PrintMore PCg
set_option linter.unusedVariables false
set_option linter.unusedSimpArgs false
def symOk (arrs shared : List S44) (sym : Int) (nm : ByteArray) : Bool := if sym = 1 then hasName arrs nm else if sym = 2 then hasName shared nm else nm.toList.isEmpty
def xOk (regs : Int) (i : S51) : Bool := if i.f0 = 16 then decide (0 ≤ i.f2) && decide (i.f2 < 4) else regOk (shp i.f0).x i.f2 regs
/-- an instruction is valid in a function with so many registers, these arrays and these shared objects -/
def insOk (regs : Int) (arrs shared : List S44) (i : S51) : Bool :=
  (shp i.f0).ok && regOk (shp i.f0).d i.f1 regs && regOk (shp i.f0).y i.f3 regs && decide ((shp i.f0).lo ≤ i.f4) && decide (i.f4 ≤ (shp i.f0).hi) && xOk regs i && symOk arrs shared (shp i.f0).sym i.f5
theorem insOk_eq (regs : Int) (arrs shared : List S44) (i : S51) (s : Shp) (h : shp i.f0 = s) : insOk regs arrs shared i =
    (s.ok && regOk s.d i.f1 regs && regOk s.y i.f3 regs && decide (s.lo ≤ i.f4) && decide (i.f4 ≤ s.hi) && (if i.f0 = 16 then decide (0 ≤ i.f2) && decide (i.f2 < 4) else regOk s.x i.f2 regs) && symOk arrs shared s.sym i.f5) := by
  subst h; rfl
set_option maxRecDepth 100000 in
set_option maxHeartbeats 1000000 in
theorem valid_any (nm : ByteArray) (regs : Int) (A : Option Addr) (c : Nat) (arrs : List S44) (Bv : Value) (A2 : Option Addr) (c2 : Nat) (shared : List S44) (i : S51) (w : World)
    (hr : Kd.C k44 w A arrs.length arrs) (hcp : arrs.length ≤ c) (hm : arrs.length ≤ 9223372036854775806)
    (hr2 : Kd.C k44 w A2 shared.length shared) (hcp2 : shared.length ≤ c2) (hm2 : shared.length ≤ 9223372036854775806) (hBv : ∃ A3 n3 c3, Bv = .slice A3 n3 c3) :
    Calls Try.prog 35 #[.agg #[.string nm, .int .i64 regs, .slice A arrs.length c, Bv], .slice A2 shared.length c2, .agg #[.int .u8 i.f0, .int .i64 i.f1, .int .i64 i.f2, .int .i64 i.f3, .int .i64 i.f4, .string i.f5]] w
      fun e w' => e = .returned (.bool (insOk regs arrs shared i)) ∧ Below w.heap.size w w' := by
  obtain ⟨A3, n3, c3, rfl⟩ := hBv
  have HR := Aside0.mk hr; clear hr
  have HR2 := Aside0.mk hr2; clear hr2
  have hu := Try.underlying44
  have hu2 := Try.underlying51
  have hu3 := Try.underlying25
  have hu4 := Try.underlying141
  go_enter Try.func35, Try.ntmps35
  go_wp2_with fail
  refine (shapeOf_any _ _).mono ?_
  rintro e w1 ⟨rfl, hb1⟩
  have hz := hb1.size
  simp only [World.size_alloc] at hz
  have hF : w1.heap[w.heap.size]? = some (.cells #[.string nm, .int .i64 regs, .slice A arrs.length c, .slice A3 n3 c3] 25 (0, 0)) := (hb1.block _ (by simp; omega)).trans ((Below.heap_alloc _ _ _ (by simp)).trans (heap_alloc_new w _))
  have hI : w1.heap[w.heap.size + 1]? = some (.cells #[.int .u8 i.f0, .int .i64 i.f1, .int .i64 i.f2, .int .i64 i.f3, .int .i64 i.f4, .string i.f5] 51 (0, 0)) := (hb1.block _ (by simp)).trans (heap_alloc_at _ _ _ (by simp))
  have hz0 : w.heap.size < w1.heap.size := by omega
  have hz1 : w.heap.size + 1 < w1.heap.size := by omega
  obtain ⟨f0, f1, f2, f3⟩ := blk4 hF
  obtain ⟨i0, i1, i2, i3, i4, i5⟩ := blk6 hI
  clear hF hI
  have HB1 : Aside0 (Below w.heap.size w w1) := ⟨Below.trans (((Below.refl _ _).alloc (Nat.le_refl _) _).alloc (by simp) _) (hb1.mono (by simp; omega))⟩
  clear hb1
  have HS := Aside0.mk (insOk_eq regs arrs shared i _ rfl)
  generalize shp i.f0 = s at *
  obtain ⟨sd, sx, sy, slo, shi, ssym, sok⟩ := s
  dsimp only at *
  go_wp2_with (go_at_call 57; refine (register_any _ _ _ _).mono ?_; rintro e w' ⟨rfl, rfl⟩)
  all_goals first
  | (go_ret
     refine ⟨retb ?_, HB1.out.alloc HB1.out.size _⟩
     rw [HS.out]
     simp_all [symOk]
     done)
  | (go_ret
     refine ⟨retb ?_, HB1.out.alloc HB1.out.size _⟩
     rw [HS.out]
     simp [*, symOk]
     omega)
  | (go_ret
     refine ⟨retb ?_, HB1.out.alloc HB1.out.size _⟩
     rw [HS.out]
     simp_all [symOk]
     omega)
  | (have HC := Aside0.mk (HB1.out.alloc HB1.out.size (.cells #[.bool sd, .bool sx, .bool sy, .int .i64 slo, .int .i64 shi, .int .i64 ssym] 141))
     first
     | (with_reducible refine (has_any A c arrs _ _ (Kd.C_below HR.out HC.out) hcp hm).mono ?_)
     | (with_reducible refine (has_any A2 c2 shared _ _ (Kd.C_below HR2.out HC.out) hcp2 hm2).mono ?_)
     rintro e w2 ⟨rfl, hb2⟩
     have HB2 := Aside0.mk (below_step HC.out hb2); clear hb2
     go_wp2
     go_ret
     refine ⟨retb ?_, HB2.out⟩
     rw [HS.out]
     simp_all [symOk]
     done)
theorem callFunc_irValid1 (args : Array Value) (W : World) : (callFunc 34 args).run Try.prog W = .ok (.enter 34 args) W := by kernel_rfl
set_option maxRecDepth 100000 in
set_option maxHeartbeats 1000000 in
theorem valid1_any (b b2 : Nat) (nm : ByteArray) (regs : Int) (A : Option Addr) (c : Nat) (arrs : List S44) (A3 : Option Addr) (n3 c3 : Nat) (A2 : Option Addr) (c2 : Nat) (shared : List S44) (i : S51) (w : World)
    (hF : w.heap[b]? = some (.cells #[.string nm, .int .i64 regs, .slice A arrs.length c, .slice A3 n3 c3] 25 (0, 0)))
    (hS : w.heap[b2]? = some (.cells #[.slice A2 shared.length c2] 22 (0, 0)))
    (hr : Kd.C k44 w A arrs.length arrs) (hcp : arrs.length ≤ c) (hm : arrs.length ≤ 9223372036854775806)
    (hr2 : Kd.C k44 w A2 shared.length shared) (hcp2 : shared.length ≤ c2) (hm2 : shared.length ≤ 9223372036854775806) :
    Calls Try.prog 34 #[.agg #[.int .u8 i.f0, .int .i64 i.f1, .int .i64 i.f2, .int .i64 i.f3, .int .i64 i.f4, .string i.f5], .pointer (some ⟨b, 0, none⟩), .pointer (some ⟨b2, 0, none⟩)] w
      fun e w' => e = .returned (.bool (!insOk regs arrs shared i)) ∧ Below w.heap.size w w' := by
  have hlt := blk_lt hF
  have hlt2 := blk_lt hS
  obtain ⟨f0, f1, f2, f3⟩ := blk4 hF
  have g0 := blk1 hS
  clear hF hS
  have hb0 : Below w.heap.size w (w.alloc (.cells #[.int .u8 i.f0, .int .i64 i.f1, .int .i64 i.f2, .int .i64 i.f3, .int .i64 i.f4, .string i.f5] 51)) := (Below.refl _ _).alloc (Nat.le_refl _) _
  have HC := Aside0.mk (valid_any nm regs A c arrs (.slice A3 n3 c3) A2 c2 shared i _ (Kd.C_below hr hb0) hcp hm (Kd.C_below hr2 hb0) hcp2 hm2 ⟨_, _, _, rfl⟩)
  have HB0 := Aside0.mk hb0
  clear hb0 hr hr2
  have hu2 := Try.underlying51
  have hu3 := Try.underlying25
  go_enter Try.func34, Try.ntmps34
  go_wp2_with fail
  refine HC.out.mono ?_
  rintro e w1 ⟨rfl, hb1⟩
  have HB1 := Aside0.mk (below_step HB0.out hb1); clear hb1
  go_wp2
  go_ret
  exact ⟨rfl, HB1.out⟩
end Go.Proofs.Ytadaopfcgpfiiaa
namespace Go.Proofs.Ytadaopfcgpfiiaa
open Go.RowKit Go.Proofs.YtadaopfcgpfiiaaW.PrintWords Go.Proofs.YtadaopfcgpfiiaaW.PrintLast Go.Proofs.YtadaopfcgpfiiaaW.PrintMore PCg
set_option linter.unusedVariables false
set_option linter.unusedSimpArgs false
def tgtOk (nb : Int) (t : Int) : Bool := decide (0 ≤ t) && decide (t < nb)
def endOk (regs nb : Int) (kind x tt els : Int) : Bool :=
  if kind = 1 then tgtOk nb tt && x == 0 && els == 0 else
  if kind = 2 then tgtOk nb tt && tgtOk nb els && decide (0 ≤ x) && decide (x < regs) else kind == 3 && x == 0 && tt == 0 && els == 0
set_option maxRecDepth 100000 in
set_option maxHeartbeats 400000 in
theorem end1_any (b : Nat) (v0 v1 v2 : Value) (A3 : Option Addr) (n3 c3 : Nat) (t : Int) (w : World)
    (f3 : w.cell? ⟨b, 3, none⟩ = some (.slice A3 n3 c3)) :
    Calls Try.prog 54 #[.int .i64 t, .pointer (some ⟨b, 0, none⟩)] w fun e w' => e = .returned (.bool (tgtOk n3 t)) ∧ w = w' := by
  have hlt := World.block_lt_of_cell? w _ f3
  go_enter Try.func54, Try.ntmps54
  go_wp2
  all_goals go_ret
  all_goals (refine ⟨retb ?_, rfl⟩)
  · have : 0 ≤ t := by assumption
    simp [tgtOk, this]
  · have : t < 0 := by assumption
    simp [tgtOk]; omega
set_option maxRecDepth 100000 in
set_option maxHeartbeats 1000000 in
theorem end_any (nm : ByteArray) (regs : Int) (A A3 : Option Addr) (n c n3 c3 : Nat) (A4 : Option Addr) (n4 c4 : Nat) (kind x tt els : Int) (w : World) :
    Calls Try.prog 32 #[.agg #[.string nm, .int .i64 regs, .slice A n c, .slice A3 n3 c3], .agg #[.slice A4 n4 c4, .int .u8 kind, .int .i64 x, .int .i64 tt, .int .i64 els]] w
      fun e w' => e = .returned (.bool (endOk regs n3 kind x tt els)) ∧ Below w.heap.size w w' := by
  have hu2 := Try.underlying49
  have hu3 := Try.underlying25
  have HB : Aside0 (Below w.heap.size w ((w.alloc (.cells #[.string nm, .int .i64 regs, .slice A n c, .slice A3 n3 c3] 25)).alloc (.cells #[.slice A4 n4 c4, .int .u8 kind, .int .i64 x, .int .i64 tt, .int .i64 els] 49))) :=
    ⟨((Below.refl _ _).alloc (Nat.le_refl _) _).alloc (by simp) _⟩
  have f3 : ((w.alloc (.cells #[.string nm, .int .i64 regs, .slice A n c, .slice A3 n3 c3] 25)).alloc (.cells #[.slice A4 n4 c4, .int .u8 kind, .int .i64 x, .int .i64 tt, .int .i64 els] 49)).cell? ⟨w.heap.size, 3, none⟩ = some (.slice A3 n3 c3) :=
    (blk_cell (blk_alloc (blk_new w _) _) 3).trans rfl
  have HC := Aside0.mk (fun t => end1_any w.heap.size undef undef undef A3 n3 c3 t _ f3)
  clear f3
  by_cases k1 : kind = 1
  · subst k1
    go_enter Try.func32, Try.ntmps32
    go_wp2_with (go_at_call 54; refine (HC.out _).mono ?_; rintro e w' ⟨rfl, rfl⟩)
    all_goals (go_ret; refine ⟨retb ?_, ((Below.refl _ _).alloc (Nat.le_refl _) _).alloc (by simp) _⟩)
    all_goals (simp_all [endOk])
  · by_cases k2 : kind = 2
    · subst k2
      go_enter Try.func32, Try.ntmps32
      go_wp2_with (go_at_call 54; refine (HC.out _).mono ?_; rintro e w' ⟨rfl, rfl⟩)
      all_goals (go_ret; refine ⟨retb ?_, ((Below.refl _ _).alloc (Nat.le_refl _) _).alloc (by simp) _⟩)
      all_goals (simp_all [endOk])
      all_goals omega
    · go_enter Try.func32, Try.ntmps32
      go_wp2_with (go_at_call 54; refine (HC.out _).mono ?_; rintro e w' ⟨rfl, rfl⟩)
      all_goals (go_ret; refine ⟨retb ?_, ((Below.refl _ _).alloc (Nat.le_refl _) _).alloc (by simp) _⟩)
      all_goals (simp_all [endOk])
end Go.Proofs.Ytadaopfcgpfiiaa
namespace Go.Proofs.Ytadaopfcgpfiiaa
open Go.RowKit Go.Proofs.YtadaopfcgpfiiaaW.PrintWords Go.Proofs.YtadaopfcgpfiiaaW.PrintLast Go.Proofs.YtadaopfcgpfiiaaW.PrintMore PCg
set_option linter.unusedVariables false
set_option linter.unusedSimpArgs false
def allTo (n : Nat) (p : Int → Bool) : Bool := (List.range n).all fun j => p j
theorem allTo_true {n : Nat} {p : Int → Bool} (h : ∀ j : Int, 0 ≤ j → j < n → p j = true) : allTo n p = true := by
  unfold allTo
  rw [List.all_eq_true]
  intro j hj
  have := List.mem_range.1 hj
  exact h j (by omega) (by omega)
theorem allTo_false {n : Nat} {p : Int → Bool} {j : Int} (h0 : 0 ≤ j) (h1 : j < n) (hp : p j = false) : allTo n p = false := by
  unfold allTo
  rw [List.all_eq_false]
  exact ⟨j.toNat, List.mem_range.2 (by omega), by rw [show ((j.toNat : Nat) : Int) = j from by omega, hp]; simp⟩
def arrOkAt (arrs shared : List S44) (j : Int) : Bool :=
  decide (1 ≤ (rd_T44 arrs j).f1) && decide ((rd_T44 arrs j).f1 ≤ 32) && !hasName (arrs.take j.toNat) (rd_T44 arrs j).f0 && !hasName shared (rd_T44 arrs j).f0
def shOkAt (shared : List S44) (j : Int) : Bool := !hasName (shared.take j.toNat) (rd_T44 shared j).f0
def blkOk (regs nb : Int) (arrs shared : List S44) (b : S49) : Bool := endOk regs nb b.f1 b.f2 b.f3 b.f4 && b.f0.all (insOk regs arrs shared)
/-- ir.Valid -/
def irOk (regs : Int) (arrs : List S44) (blks : List S49) (shared : List S44) : Bool :=
  decide (blks.length ≠ 0) && decide (0 ≤ regs) && decide (regs ≤ 10000) && decide (arrs.length ≤ 4) && allTo arrs.length (arrOkAt arrs shared) && allTo shared.length (shOkAt shared) &&
    allTo blks.length (fun j => blkOk regs blks.length arrs shared (rd_T49 blks j))
theorem infoArr_spec : Try.prog.info? 44 = some (Option.get (Try.prog.info? 44) (by kernel_rfl)) := by kernel_rfl
set_option maxRecDepth 100000 in
set_option maxHeartbeats 2000000 in
theorem irValid_go (nm : ByteArray) (regs : Int) (A : Option Addr) (c : Nat) (arrs : List S44) (A3 : Option Addr) (c3 : Nat) (blks : List S49) (A2 : Option Addr) (c2 : Nat) (shared : List S44) (w : World)
    (hr : Kd.C k44 w A arrs.length arrs) (hcp : arrs.length ≤ c)
    (hr3 : Kd.C k49 w A3 blks.length blks) (hcp3 : blks.length ≤ c3) (hm3 : blks.length ≤ 9223372036854775806) (hmc : ∀ b ∈ blks, b.f0.length ≤ 9223372036854775806)
    (hr2 : Kd.C k44 w A2 shared.length shared) (hcp2 : shared.length ≤ c2) (hm2 : shared.length ≤ 9223372036854775806)
    (q1 : 0 < blks.length) (q2 : 0 ≤ regs) (q3 : regs ≤ 10000) (q4 : (arrs.length : Int) ≤ 4) :
    Calls Try.prog 13 #[.agg #[.string nm, .int .i64 regs, .slice A arrs.length c, .slice A3 blks.length c3], .slice A2 shared.length c2] w
      fun e w' => e = .returned (.bool (irOk regs arrs blks shared)) ∧ Below w.heap.size w w' := by
  have HR := Aside0.mk hr; clear hr
  have HR2 := Aside0.mk hr2; clear hr2
  have HR3 := Aside0.mk hr3; clear hr3
  have HMC := Aside0.mk hmc; clear hmc
  have hu := Try.underlying44
  have hu2 := Try.underlying49
  have hu3 := Try.underlying25
  have q1b : ((blks.length : Int) == 0) = false := beq_eq_false_iff_ne.2 (by omega)
  have q4b : decide (4 < (arrs.length : Int)) = false := by simp; omega
  have HSP : Aside0 (∀ a1 a2 a3, allTo arrs.length (arrOkAt arrs shared) = a1 → allTo shared.length (shOkAt shared) = a2 → allTo blks.length (fun j => blkOk regs blks.length arrs shared (rd_T49 blks j)) = a3 → irOk regs arrs blks shared = (a1 && a2 && a3)) :=
    ⟨fun a1 a2 a3 h1 h2 h3 => by
      unfold irOk
      rw [h1, h2, h3, decide_eq_true (show blks.length ≠ 0 by omega), decide_eq_true q2, decide_eq_true q3, decide_eq_true (show arrs.length ≤ 4 by omega)]
      simp⟩
  have HBF : Aside0 (Below w.heap.size w ((w.alloc (.cells #[.string nm, .int .i64 regs, .slice A arrs.length c, .slice A3 blks.length c3] 25)).alloc (.cells #[.slice A2 shared.length c2] 22))) := ⟨((Below.refl _ _).alloc (Nat.le_refl _) _).alloc (by simp) _⟩
  go_enter Try.func13, Try.ntmps13
  go_wp2_with fail
  go_loopw [34] (fun i wr => ∃ k : Int, i = .int .i64 k ∧ 0 ≤ k ∧ k ≤ arrs.length ∧ Aside0 (∀ j : Int, 0 ≤ j → j < k → arrOkAt arrs shared j = true) ∧ Aside0 (Below w.heap.size w wr) ∧
      Aside0 (wr.heap[w.heap.size]? = some (.cells #[.string nm, .int .i64 regs, .slice A arrs.length c, .slice A3 blks.length c3] 25 (0, 0))) ∧ Aside0 (wr.heap[w.heap.size + 1]? = some (.cells #[.slice A2 shared.length c2] 22 (0, 0)))) (fun i wr => arrs.length - (intOf i).toNat)
  case atStart => exact ⟨0, rfl, Int.le_refl _, by omega, ⟨fun j _ hj => by omega⟩, HBF, ⟨blk_alloc (blk_new w _) _⟩, ⟨heap_alloc_at _ _ _ (by simp)⟩⟩
  case round =>
    obtain ⟨k, rfl, hk0, hk, HN, HB, BF, BS⟩ := hrel
    have hz0 := blk_lt BF.out
    have hz1 := blk_lt BS.out
    obtain ⟨f0, f1, f2, f3⟩ := blk4 BF.out
    have g0 := blk1 BS.out
    by_cases hlt : k < arrs.length
    · obtain ⟨ad, hA, h0, h1⟩ := at_T44 HR.out k hk0 hlt
      cases hA
      replace h0 := (HB.out.cell (World.block_lt_of_cell? w _ h0)).trans h0
      replace h1 := (HB.out.cell (World.block_lt_of_cell? w _ h1)).trans h1
      have p110 := eq_true hk0
      have q110 := eq_true hlt
      have hcut := fun W => cut_to (P := Try.prog) 22 44 .i64 Try.underlying22 infoArr_spec (some ad) arrs.length c k hk0 hk hcp W
      have HTL := Aside0.mk (show (arrs.take k.toNat).length = k.toNat from by rw [List.length_take]; omega)
      have HTC := Aside0.mk (show (arrs.take k.toNat).length ≤ c from by rw [List.length_take]; omega)
      have HTM := Aside0.mk (show (arrs.take k.toNat).length ≤ 9223372036854775806 from by rw [List.length_take]; omega)
      have HRT := Aside0.mk (Kd.C_take (m := k.toNat) HR.out (by omega))
      go_wp2_with fail
      have HB6 := Aside0.mk (below_alloc HB.out (.cells #[.string (rd_T44 arrs k).f0, .int .i64 (rd_T44 arrs k).f1] 44))
      have BA6 := blk_new wr (.cells #[.string (rd_T44 arrs k).f0, .int .i64 (rd_T44 arrs k).f1] 44)
      have BF6 := blk_alloc BF.out (.cells #[.string (rd_T44 arrs k).f0, .int .i64 (rd_T44 arrs k).f1] 44)
      have BS6 := blk_alloc BS.out (.cells #[.string (rd_T44 arrs k).f0, .int .i64 (rd_T44 arrs k).f1] 44)
      clear f0 f1 f2 f3 g0 h0 h1
      generalize wr.alloc (.cells #[.string (rd_T44 arrs k).f0, .int .i64 (rd_T44 arrs k).f1] 44) = w6 at *
      have hy0 := blk_lt BF6
      have hy1 := blk_lt BS6
      have hy2 := blk_lt BA6
      obtain ⟨f0, f1, f2, f3⟩ := blk4 BF6
      have g0 := blk1 BS6
      obtain ⟨a0, a1⟩ := blk2 BA6
      have BF7 := Aside0.mk BF6; have BS7 := Aside0.mk BS6
      clear BF6 BS6 BA6
      by_cases t1 : (rd_T44 arrs k).f1 < 1
      · have t1b := decide_eq_true t1
        go_quiet (fail)
        go_wp2
        go_ret
        exact ⟨retb (by rw [HSP.out _ _ _ (allTo_false hk0 hlt (by simp [arrOkAt]; omega)) rfl rfl]; simp), pw_below_drewN HB6.out _⟩
      · by_cases t2 : 32 < (rd_T44 arrs k).f1
        · have t1b := decide_eq_false t1
          have t2b := decide_eq_true t2
          go_quiet (fail)
          go_wp2
          go_ret
          exact ⟨retb (by rw [HSP.out _ _ _ (allTo_false hk0 hlt (by simp [arrOkAt]; omega)) rfl rfl]; simp), pw_below_drewN HB6.out _⟩
        · have t1b := decide_eq_false t1
          have t2b := decide_eq_false t2
          have HC1 : Aside0 (∀ b, hasName (arrs.take k.toNat) (rd_T44 arrs k).f0 = b → ∀ W, Below w6.heap.size w6 W → Calls Try.prog 31 #[.slice (some ad) k.toNat c, .string (rd_T44 arrs k).f0] W fun e W' => e = .returned (.bool b) ∧ Below W.heap.size W W') :=
            ⟨fun b hb W hW => hb ▸ has_len (some ad) c k.toNat (arrs.take k.toNat) _ _ HTL.out (Kd.C_below HRT.out (below_step HB6.out hW)) HTC.out HTM.out⟩
          have HC2 : Aside0 (∀ b, hasName shared (rd_T44 arrs k).f0 = b → ∀ W, Below w6.heap.size w6 W → Calls Try.prog 31 #[.slice A2 shared.length c2, .string (rd_T44 arrs k).f0] W fun e W' => e = .returned (.bool b) ∧ Below W.heap.size W W') :=
            ⟨fun b hb W hW => hb ▸ has_len A2 c2 shared.length shared _ _ rfl (Kd.C_below HR2.out (below_step HB6.out hW)) hcp2 hm2⟩
          cases hh1 : hasName (arrs.take k.toNat) (rd_T44 arrs k).f0 with
          | true =>
            have HH1 := Aside0.mk hh1; clear hh1
            first
            | (go_region_with ((go_at_call 31
                                with_reducible refine (HC1.out true HH1.out _ ?_).mono ?_
                                (exact below_drew (Below.refl _ _))
                                rintro e w2 ⟨rfl, hb2⟩)))
            | fail
            all_goals (have HB2 := Aside0.mk (below_step HB6.out (below_step (below_drew (Below.refl _ _)) hb2)); clear hb2)
            all_goals go_wp2
            all_goals go_ret
            all_goals exact ⟨retb (by rw [HSP.out _ _ _ (allTo_false hk0 hlt (by simp [arrOkAt, HH1.out])) rfl rfl]; simp), HB2.out⟩
          | false =>
            have HH1 := Aside0.mk hh1; clear hh1
            cases hh2 : hasName shared (rd_T44 arrs k).f0 with
            | true =>
              have HH2 := Aside0.mk hh2; clear hh2
              go_region_held3 (fun W => W.cell? ⟨w.heap.size, 2, none⟩ = some (.slice (some ad) arrs.length c) ∧ W.cell? ⟨w.heap.size + 1, 0, none⟩ = some (.slice A2 shared.length c2) ∧ W.cell? ⟨wr.heap.size, 0, none⟩ = some (.string (rd_T44 arrs k).f0) ∧ W.cell? ⟨wr.heap.size, 1, none⟩ = some (.int .i64 (rd_T44 arrs k).f1) ∧ Aside0 (Below w6.heap.size w6 W))
                (first
                | exact ⟨by go_keep, by go_keep, by go_keep, by go_keep, ⟨below_drew (Below.refl _ _)⟩⟩
                | (go_split_ands; exact ⟨keepCell hy0 (by assumption) hb2 (by assumption), keepCell hy1 (by assumption) hb2 (by assumption), keepCell hy2 (by assumption) hb2 (by assumption), keepCell hy2 (by assumption) hb2 (by assumption), keepBelow (by assumption) hb2⟩))
                (first
                  | (go_at_call 31
                     with_reducible refine (HC1.out false HH1.out _ (Aside0.out ?_)).mono ?_
                     (go_split_ands; assumption)
                     rintro e w2 ⟨rfl, hb2⟩)
                  | (go_at_call 31
                     with_reducible refine (HC2.out true HH2.out _ (Aside0.out ?_)).mono ?_
                     (go_split_ands; assumption)
                     rintro e w3 ⟨rfl, hb2⟩))
              go_split_ands
              have hS : Aside0 (Below w6.heap.size w6 w3) := by assumption
              have HB3 := Aside0.mk (below_step HB6.out hS.out)
              go_wp2
              go_ret
              exact ⟨retb (by rw [HSP.out _ _ _ (allTo_false hk0 hlt (by simp [arrOkAt, HH2.out])) rfl rfl]; simp), HB3.out⟩
            | false =>
              have HH2 := Aside0.mk hh2; clear hh2
              go_region_held3 (fun W => W.cell? ⟨w.heap.size, 2, none⟩ = some (.slice (some ad) arrs.length c) ∧ W.cell? ⟨w.heap.size + 1, 0, none⟩ = some (.slice A2 shared.length c2) ∧ W.cell? ⟨wr.heap.size, 0, none⟩ = some (.string (rd_T44 arrs k).f0) ∧ W.cell? ⟨wr.heap.size, 1, none⟩ = some (.int .i64 (rd_T44 arrs k).f1) ∧ Aside0 (Below w6.heap.size w6 W))
                (first
                | exact ⟨by go_keep, by go_keep, by go_keep, by go_keep, ⟨below_drew (Below.refl _ _)⟩⟩
                | (go_split_ands; exact ⟨keepCell hy0 (by assumption) hb2 (by assumption), keepCell hy1 (by assumption) hb2 (by assumption), keepCell hy2 (by assumption) hb2 (by assumption), keepCell hy2 (by assumption) hb2 (by assumption), keepBelow (by assumption) hb2⟩))
                (first
                  | (go_at_call 31
                     with_reducible refine (HC1.out false HH1.out _ (Aside0.out ?_)).mono ?_
                     (go_split_ands; assumption)
                     rintro e w2 ⟨rfl, hb2⟩)
                  | (go_at_call 31
                     with_reducible refine (HC2.out false HH2.out _ (Aside0.out ?_)).mono ?_
                     (go_split_ands; assumption)
                     rintro e w3 ⟨rfl, hb2⟩))
              go_split_ands
              have hS : Aside0 (Below w6.heap.size w6 w3) := by assumption
              have HB3 := Aside0.mk (below_step HB6.out hS.out)
              have BF3 := Aside0.mk (blk_below BF7.out hS.out)
              have BS3 := Aside0.mk (blk_below BS7.out hS.out)
              clear hS
              go_wp2
              go_roundw
              case rel =>
                refine ⟨k + 1, rfl, by omega, by omega, ⟨fun j h0 hlt => ?_⟩, HB3, BF3, BS3⟩
                by_cases e : j < k
                · exact HN.out j h0 e
                · obtain rfl : j = k := by omega
                  simp [arrOkAt, HH1.out, HH2.out]; omega
              case measure => simp [intOf]; omega
    · have N1 : Aside0 (allTo arrs.length (arrOkAt arrs shared) = true) := ⟨allTo_true fun j h0 h1 => HN.out j h0 (by omega)⟩
      clear HN
      go_wp2_with fail
      obtain ⟨w8, rfl⟩ : ∃ w8 : World, w8 = wr := ⟨_, rfl⟩
      go_loopw [65] (fun i wr => ∃ k : Int, i = .int .i64 k ∧ 0 ≤ k ∧ k ≤ shared.length ∧ Aside0 (∀ j : Int, 0 ≤ j → j < k → shOkAt shared j = true) ∧ Aside0 (Below w.heap.size w wr) ∧
          Aside0 (wr.heap[w.heap.size]? = some (.cells #[.string nm, .int .i64 regs, .slice A arrs.length c, .slice A3 blks.length c3] 25 (0, 0))) ∧ Aside0 (wr.heap[w.heap.size + 1]? = some (.cells #[.slice A2 shared.length c2] 22 (0, 0)))) (fun i wr => shared.length - (intOf i).toNat)
      case atStart => exact ⟨0, rfl, Int.le_refl _, by omega, ⟨fun j _ hj => by omega⟩, HB, BF, BS⟩
      case round =>
        clear HB BF BS hz0 hz1 f0 f1 f2 f3 g0
        obtain ⟨k2, rfl, hk0', hk', HN, HB, BF, BS⟩ := hrel
        have hz0 := blk_lt BF.out
        have hz1 := blk_lt BS.out
        obtain ⟨f0, f1, f2, f3⟩ := blk4 BF.out
        have g0 := blk1 BS.out
        by_cases hlt2 : k2 < shared.length
        · obtain ⟨ad, hA, h0, h1⟩ := at_T44 HR2.out k2 hk0' hlt2
          cases hA
          replace h0 := (HB.out.cell (World.block_lt_of_cell? w _ h0)).trans h0
          replace h1 := (HB.out.cell (World.block_lt_of_cell? w _ h1)).trans h1
          have p110 := eq_true hk0'
          have q110 := eq_true hlt2
          have hcut := fun W => cut_to (P := Try.prog) 22 44 .i64 Try.underlying22 infoArr_spec (some ad) shared.length c2 k2 hk0' hk' hcp2 W
          have HTL := Aside0.mk (show (shared.take k2.toNat).length = k2.toNat from by rw [List.length_take]; omega)
          have HTC := Aside0.mk (show (shared.take k2.toNat).length ≤ c2 from by rw [List.length_take]; omega)
          have HTM := Aside0.mk (show (shared.take k2.toNat).length ≤ 9223372036854775806 from by rw [List.length_take]; omega)
          have HRT := Aside0.mk (Kd.C_take (m := k2.toNat) HR2.out (by omega))
          go_wp2_with fail
          have HB6 := Aside0.mk (below_alloc HB.out (.cells #[.string (rd_T44 shared k2).f0, .int .i64 (rd_T44 shared k2).f1] 44))
          have BA6 := blk_new wr (.cells #[.string (rd_T44 shared k2).f0, .int .i64 (rd_T44 shared k2).f1] 44)
          have BF6 := blk_alloc BF.out (.cells #[.string (rd_T44 shared k2).f0, .int .i64 (rd_T44 shared k2).f1] 44)
          have BS6 := blk_alloc BS.out (.cells #[.string (rd_T44 shared k2).f0, .int .i64 (rd_T44 shared k2).f1] 44)
          clear f0 f1 f2 f3 g0 h0 h1
          generalize wr.alloc (.cells #[.string (rd_T44 shared k2).f0, .int .i64 (rd_T44 shared k2).f1] 44) = w6 at *
          have hy1 := blk_lt BS6
          have hy2 := blk_lt BA6
          have g0 := blk1 BS6
          obtain ⟨a0, a1⟩ := blk2 BA6
          have BF7 := Aside0.mk BF6; have BS7 := Aside0.mk BS6
          clear BF6 BS6 BA6
          have HC1 : Aside0 (∀ W, Below w6.heap.size w6 W → Calls Try.prog 31 #[.slice (some ad) k2.toNat c2, .string (rd_T44 shared k2).f0] W fun e W' => e = .returned (.bool (hasName (shared.take k2.toNat) (rd_T44 shared k2).f0)) ∧ Below W.heap.size W W') :=
            ⟨fun W hW => has_len (some ad) c2 k2.toNat (shared.take k2.toNat) _ _ HTL.out (Kd.C_below HRT.out (below_step HB6.out hW)) HTC.out HTM.out⟩
          go_region_held3 (fun W => W.cell? ⟨w.heap.size + 1, 0, none⟩ = some (.slice (some ad) shared.length c2) ∧ W.cell? ⟨wr.heap.size, 0, none⟩ = some (.string (rd_T44 shared k2).f0) ∧ Aside0 (Below w6.heap.size w6 W))
            (first
              | exact ⟨by go_keep, by go_keep, ⟨below_drew (Below.refl _ _)⟩⟩
              | (go_split_ands; exact ⟨keepCell hy1 (by assumption) hb2 (by assumption), keepCell hy2 (by assumption) hb2 (by assumption), keepBelow (by assumption) hb2⟩))
            (first
              | (go_at_call 31
                 with_reducible refine (HC1.out _ (Aside0.out ?_)).mono ?_
                 (go_split_ands; assumption)
                 rintro e w3 ⟨rfl, hb2⟩))
          go_split_ands
          have hS : Aside0 (Below w6.heap.size w6 w3) := by assumption
          have HB3 := Aside0.mk (below_step HB6.out hS.out)
          have BF3 := Aside0.mk (blk_below BF7.out hS.out)
          have BS3 := Aside0.mk (blk_below BS7.out hS.out)
          clear hS
          cases hh1 : hasName (shared.take k2.toNat) (rd_T44 shared k2).f0 with
          | true =>
            have HH1 := Aside0.mk hh1
            go_wp2
            go_ret
            exact ⟨retb (by rw [HSP.out _ _ _ rfl (allTo_false hk0' hlt2 (by simp [shOkAt, HH1.out])) rfl]; simp), HB3.out⟩
          | false =>
            have HH1 := Aside0.mk hh1
            go_wp2
            go_roundw
            case rel =>
              refine ⟨k2 + 1, rfl, by omega, by omega, ⟨fun j h0 hlt => ?_⟩, HB3, BF3, BS3⟩
              by_cases e : j < k2
              · exact HN.out j h0 e
              · obtain rfl : j = k2 := by omega
                simp [shOkAt, HH1.out]
            case measure => simp [intOf]; omega
        · have N2 : Aside0 (allTo shared.length (shOkAt shared) = true) := ⟨allTo_true fun j h0 h1 => HN.out j h0 (by omega)⟩
          clear HN
          go_wp2_with fail
          obtain ⟨w9, rfl⟩ : ∃ w9 : World, w9 = wr := ⟨_, rfl⟩
          go_loopw [80] (fun i wr => ∃ k : Int, i = .int .i64 k ∧ 0 ≤ k ∧ k ≤ blks.length ∧ Aside0 (∀ j : Int, 0 ≤ j → j < k → blkOk regs blks.length arrs shared (rd_T49 blks j) = true) ∧ Aside0 (Below w.heap.size w wr) ∧
              Aside0 (wr.heap[w.heap.size]? = some (.cells #[.string nm, .int .i64 regs, .slice A arrs.length c, .slice A3 blks.length c3] 25 (0, 0))) ∧ Aside0 (wr.heap[w.heap.size + 1]? = some (.cells #[.slice A2 shared.length c2] 22 (0, 0)))) (fun i wr => blks.length - (intOf i).toNat)
          case atStart => exact ⟨0, rfl, Int.le_refl _, by omega, ⟨fun j _ hj => by omega⟩, HB, BF, BS⟩
          case round =>
            clear HB BF BS hz0 hz1 f0 f1 f2 f3 g0
            obtain ⟨k3, rfl, hk0'', hk'', HN, HB, BF, BS⟩ := hrel
            have hz0 := blk_lt BF.out
            have hz1 := blk_lt BS.out
            obtain ⟨f0, f1, f2, f3⟩ := blk4 BF.out
            have g0 := blk1 BS.out
            by_cases hlt3 : k3 < blks.length
            · obtain ⟨ad, A5, c5, hA, h0, h1, h2, h3, h4, hl5, hr5⟩ := at_T49 HR3.out k3 hk0'' hlt3
              cases hA
              replace h0 := (HB.out.cell (World.block_lt_of_cell? w _ h0)).trans h0
              replace h1 := (HB.out.cell (World.block_lt_of_cell? w _ h1)).trans h1
              replace h2 := (HB.out.cell (World.block_lt_of_cell? w _ h2)).trans h2
              replace h3 := (HB.out.cell (World.block_lt_of_cell? w _ h3)).trans h3
              replace h4 := (HB.out.cell (World.block_lt_of_cell? w _ h4)).trans h4
              have HR5 := Aside0.mk hr5; clear hr5
              have p110 := eq_true hk0''
              have q110 := eq_true hlt3
              go_wp2_with fail
              have HB6 := Aside0.mk (below_alloc HB.out (.cells #[.slice A5 (rd_T49 blks k3).f0.length c5, .int .u8 (rd_T49 blks k3).f1, .int .i64 (rd_T49 blks k3).f2, .int .i64 (rd_T49 blks k3).f3, .int .i64 (rd_T49 blks k3).f4] 49))
              have BA6 := blk_new wr (.cells #[.slice A5 (rd_T49 blks k3).f0.length c5, .int .u8 (rd_T49 blks k3).f1, .int .i64 (rd_T49 blks k3).f2, .int .i64 (rd_T49 blks k3).f3, .int .i64 (rd_T49 blks k3).f4] 49)
              have BF6 := blk_alloc BF.out (.cells #[.slice A5 (rd_T49 blks k3).f0.length c5, .int .u8 (rd_T49 blks k3).f1, .int .i64 (rd_T49 blks k3).f2, .int .i64 (rd_T49 blks k3).f3, .int .i64 (rd_T49 blks k3).f4] 49)
              have BS6 := blk_alloc BS.out (.cells #[.slice A5 (rd_T49 blks k3).f0.length c5, .int .u8 (rd_T49 blks k3).f1, .int .i64 (rd_T49 blks k3).f2, .int .i64 (rd_T49 blks k3).f3, .int .i64 (rd_T49 blks k3).f4] 49)
              clear f0 f1 f2 f3 g0 h0 h1 h2 h3 h4
              generalize wr.alloc (.cells #[.slice A5 (rd_T49 blks k3).f0.length c5, .int .u8 (rd_T49 blks k3).f1, .int .i64 (rd_T49 blks k3).f2, .int .i64 (rd_T49 blks k3).f3, .int .i64 (rd_T49 blks k3).f4] 49) = w6 at *
              refine (end_any _ _ _ _ _ _ _ _ _ _ _ _ _ _ _ _).mono ?_
              rintro e w7 ⟨rfl, hb7⟩
              have HB7 := Aside0.mk (below_step HB6.out hb7)
              have BA7 := blk_below BA6 hb7
              have BF7 := blk_below BF6 hb7
              have BS7 := blk_below BS6 hb7
              clear hb7 BA6 BF6 BS6
              obtain ⟨a0, a1, a2, a3, a4⟩ := blk5 BA7
              have hy2 := blk_lt BA7
              have hmem : rd_T49 blks k3 ∈ blks := by
                simp only [rd_T49, List.getD_eq_getElem?_getD]
                rw [List.getElem?_eq_getElem (by omega)]
                simp
              have HC := Aside0.mk (containsFuncIns_any A5 c5 (rd_T49 blks k3).f0 (fun i => !insOk regs arrs shared i) 34 #[.pointer (some ⟨w.heap.size, 0, none⟩), .pointer (some ⟨w.heap.size + 1, 0, none⟩)] w7
                (Kd.C_below HR5.out HB7.out) hl5 (HMC.out _ hmem) callFunc_irValid1
                (fun x W _ hW => valid1_any w.heap.size (w.heap.size + 1) nm regs _ c arrs (some ad) blks.length c3 A2 c2 shared x W (blk_below BF7 hW) (blk_below BS7 hW) (Kd.C_below HR.out (below_step HB7.out hW)) hcp (by omega) (Kd.C_below HR2.out (below_step HB7.out hW)) hcp2 (by omega)))
              have BF8 := Aside0.mk BF7; have BS8 := Aside0.mk BS7
              clear BF7 BS7 BA7 hmem
              cases hh : endOk regs blks.length (rd_T49 blks k3).f1 (rd_T49 blks k3).f2 (rd_T49 blks k3).f3 (rd_T49 blks k3).f4 with
              | false =>
                have HH := Aside0.mk hh
                go_wp2
                go_ret
                exact ⟨retb (by rw [HSP.out _ _ _ rfl rfl (allTo_false hk0'' hlt3 (by simp [blkOk, HH.out]))]; simp), HB7.out⟩
              | true =>
                have HH := Aside0.mk hh
                go_wp2_with fail
                refine HC.out.mono ?_
                rintro e w10 ⟨rfl, hb10⟩
                have HB10 := Aside0.mk (below_step HB7.out hb10)
                have BF10 := Aside0.mk (blk_below BF8.out hb10)
                have BS10 := Aside0.mk (blk_below BS8.out hb10)
                clear hb10
                have HE := Aside0.mk (show (rd_T49 blks k3).f0.any (fun i => !insOk regs arrs shared i) = !(rd_T49 blks k3).f0.all (insOk regs arrs shared) from by simp [List.all_eq_not_any_not])
                cases hh2 : (rd_T49 blks k3).f0.any (fun i => !insOk regs arrs shared i) with
                | true =>
                  have HH2 := Aside0.mk hh2
                  go_wp2
                  go_ret
                  exact ⟨retb (by rw [HSP.out _ _ _ rfl rfl (allTo_false hk0'' hlt3 (by have h := HE.out; rw [HH2.out] at h; simp only [blkOk]; revert h; cases List.all (rd_T49 blks k3).f0 (insOk regs arrs shared) <;> simp))]; simp), HB10.out⟩
                | false =>
                  have HH2 := Aside0.mk hh2
                  go_wp2
                  go_roundw
                  case rel =>
                    refine ⟨k3 + 1, rfl, by omega, by omega, ⟨fun j h0 hlt => ?_⟩, HB10, BF10, BS10⟩
                    by_cases e : j < k3
                    · exact HN.out j h0 e
                    · obtain rfl : j = k3 := by omega
                      have h := HE.out
                      rw [HH2.out] at h
                      simp only [blkOk, HH.out]
                      revert h
                      cases List.all (rd_T49 blks j).f0 (insOk regs arrs shared) <;> simp
                  case measure => simp [intOf]; omega
            · go_wp2
              go_ret
              exact ⟨retb (by rw [HSP.out _ _ _ N1.out N2.out (allTo_true fun j h0 h1 => HN.out j h0 (by omega))]; rfl), HB.out⟩
set_option maxRecDepth 100000 in
set_option maxHeartbeats 1000000 in
theorem irValid_any (nm : ByteArray) (regs : Int) (A : Option Addr) (c : Nat) (arrs : List S44) (A3 : Option Addr) (c3 : Nat) (blks : List S49) (A2 : Option Addr) (c2 : Nat) (shared : List S44) (w : World)
    (hr : Kd.C k44 w A arrs.length arrs) (hcp : arrs.length ≤ c)
    (hr3 : Kd.C k49 w A3 blks.length blks) (hcp3 : blks.length ≤ c3) (hm3 : blks.length ≤ 9223372036854775806) (hmc : ∀ b ∈ blks, b.f0.length ≤ 9223372036854775806)
    (hr2 : Kd.C k44 w A2 shared.length shared) (hcp2 : shared.length ≤ c2) (hm2 : shared.length ≤ 9223372036854775806) :
    Calls Try.prog 13 #[.agg #[.string nm, .int .i64 regs, .slice A arrs.length c, .slice A3 blks.length c3], .slice A2 shared.length c2] w
      fun e w' => e = .returned (.bool (irOk regs arrs blks shared)) ∧ Below w.heap.size w w' := by
  by_cases q : 0 < blks.length ∧ 0 ≤ regs ∧ regs ≤ 10000 ∧ (arrs.length : Int) ≤ 4
  · exact irValid_go nm regs A c arrs A3 c3 blks A2 c2 shared w hr hcp hr3 hcp3 hm3 hmc hr2 hcp2 hm2 q.1 q.2.1 q.2.2.1 q.2.2.2
  · have HF : Aside0 (irOk regs arrs blks shared = false) := ⟨by
      unfold irOk
      simp only [Bool.and_eq_false_iff, decide_eq_false_iff_not]
      omega⟩
    have hu3 := Try.underlying25
    clear hr hr3 hr2
    by_cases q1 : 0 < blks.length
    · have q1b : ((blks.length : Int) == 0) = false := beq_eq_false_iff_ne.2 (by omega)
      by_cases q2 : regs < 0
      · clear q
        go_enter Try.func13, Try.ntmps13
        go_wp2
        go_ret
        exact ⟨retb HF.out.symm, ((Below.refl _ _).alloc (Nat.le_refl _) _).alloc (by simp) _⟩
      · by_cases q3 : 10000 < regs
        · clear q
          go_enter Try.func13, Try.ntmps13
          go_wp2
          go_ret
          exact ⟨retb HF.out.symm, ((Below.refl _ _).alloc (Nat.le_refl _) _).alloc (by simp) _⟩
        · have q4 : 4 < (arrs.length : Int) := by omega
          clear q
          go_enter Try.func13, Try.ntmps13
          go_wp2
          go_ret
          exact ⟨retb HF.out.symm, ((Below.refl _ _).alloc (Nat.le_refl _) _).alloc (by simp) _⟩
    · have q1b : ((blks.length : Int) == 0) = true := beq_iff_eq.2 (by omega)
      clear q q1
      go_enter Try.func13, Try.ntmps13
      go_wp2
      go_ret
      exact ⟨retb HF.out.symm, ((Below.refl _ _).alloc (Nat.le_refl _) _).alloc (by simp) _⟩
end Go.Proofs.Ytadaopfcgpfiiaa
namespace Go.Proofs.Ytadaopfcgpfiiaa
open Go.RowKit Go.Proofs.YtadaopfcgpfiiaaW.PrintWords Go.Proofs.YtadaopfcgpfiiaaW.PrintLast Go.Proofs.YtadaopfcgpfiiaaW.PrintMore PCg
set_option linter.unusedVariables false
set_option linter.unusedSimpArgs false
/-- the registers that an instruction reads -/
def usesL (i : S51) : List Int := (if (shp i.f0).x then [i.f2] else []) ++ (if (shp i.f0).y then [i.f3] else [])
/-- the register that it writes -/
def defL (i : S51) : List Int := if (shp i.f0).d then [i.f1] else []
theorem uses_f (i : S51) : ir_Uses.f 3 i.f0 i.f1 i.f2 i.f3 i.f4 i.f5 = some (usesL i) := by
  unfold ir_Uses.f usesL
  rw [shapeOf_f]
  cases (shp i.f0).x <;> cases (shp i.f0).y <;> simp
theorem defines_f (i : S51) : ir_Defines.f 3 i.f0 i.f1 i.f2 i.f3 i.f4 i.f5 = some (if (shp i.f0).d then i.f1 else 0, (shp i.f0).d) := by
  unfold ir_Defines.f
  rw [shapeOf_f]
  cases (shp i.f0).d <;> simp
theorem uses_any (i : S51) (w : World) :
    Calls Try.prog 103 #[.agg #[.int .u8 i.f0, .int .i64 i.f1, .int .i64 i.f2, .int .i64 i.f3, .int .i64 i.f4, .string i.f5]] w fun e w' => ∃ v, e = .returned v ∧ Kd.R (Kd.int .i64) 3 w' w.heap.size (fun _ => True) v (usesL i) ∧ Below w.heap.size w w' :=
  ir_Uses.calls 3 _ _ _ _ _ _ _ w (uses_f i)
theorem defines_any (i : S51) (w : World) :
    Calls Try.prog 69 #[.agg #[.int .u8 i.f0, .int .i64 i.f1, .int .i64 i.f2, .int .i64 i.f3, .int .i64 i.f4, .string i.f5]] w fun e w' => e = .returned (.tuple #[.int .i64 (if (shp i.f0).d then i.f1 else 0), .bool (shp i.f0).d]) ∧ Below w.heap.size w w' :=
  ir_Defines.calls 3 _ _ _ _ _ _ _ _ w (defines_f i)
theorem usesL_len (i : S51) : (usesL i).length ≤ 2 := by
  unfold usesL
  cases (shp i.f0).x <;> cases (shp i.f0).y <;> simp
def offReg (regs r : Int) : Bool := decide (r < 0) || decide (regs ≤ r)
set_option maxRecDepth 100000 in
set_option maxHeartbeats 400000 in
theorem lvInstruction1_any (b : Nat) (r regs : Int) (w : World) (hc : w.cell? ⟨b, 0, none⟩ = some (.int .i64 regs)) :
    Calls Try.prog 106 #[.int .i64 r, .pointer (some ⟨b, 0, none⟩)] w fun e w' => e = .returned (.bool (offReg regs r)) ∧ Below w.heap.size w w' := by
  have hlt := World.block_lt_of_cell? w _ hc
  by_cases h : r < 0
  · go_enter Try.func106, Try.ntmps106
    go_wp2
    go_ret
    exact ⟨retb (by simp [offReg]; omega), Below.refl _ _⟩
  · go_enter Try.func106, Try.ntmps106
    go_wp2
    go_ret
    exact ⟨retb (by simp [offReg]; omega), Below.refl _ _⟩
theorem callFunc_lvInstruction1 (args : Array Value) (W : World) : (callFunc 106 args).run Try.prog W = .ok (.enter 106 args) W := by kernel_rfl
/-- the instruction's operation is known, and its registers are in range -/
def insWf (regs : Int) (i : S51) : Prop := 1 ≤ i.f0 ∧ i.f0 ≤ 16 ∧ ∀ r ∈ usesL i ++ defL i, 0 ≤ r ∧ r < regs
set_option maxRecDepth 100000 in
set_option maxHeartbeats 1000000 in
theorem lvInstruction_any (i : S51) (regs : Int) (w : World) (h : insWf regs i) :
    Calls Try.prog 91 #[.agg #[.int .u8 i.f0, .int .i64 i.f1, .int .i64 i.f2, .int .i64 i.f3, .int .i64 i.f4, .string i.f5], .int .i64 regs] w fun e w' => e = .returned (.bool true) ∧ Below w.heap.size w w' := by
  obtain ⟨o1, o2, hu⟩ := h
  have HU := Aside0.mk hu
  clear hu
  have hu2 := Try.underlying51
  have hL := usesL_len i
  have HB0 : Aside0 (Below w.heap.size w ((w.alloc (.cells #[.int .u8 i.f0, .int .i64 i.f1, .int .i64 i.f2, .int .i64 i.f3, .int .i64 i.f4, .string i.f5] 51)).alloc (.cells #[.int .i64 regs] 3))) := ⟨((Below.refl _ _).alloc (Nat.le_refl _) _).alloc (by simp) _⟩
  have BI : Aside0 (((w.alloc (.cells #[.int .u8 i.f0, .int .i64 i.f1, .int .i64 i.f2, .int .i64 i.f3, .int .i64 i.f4, .string i.f5] 51)).alloc (.cells #[.int .i64 regs] 3)).heap[w.heap.size]? = some (.cells #[.int .u8 i.f0, .int .i64 i.f1, .int .i64 i.f2, .int .i64 i.f3, .int .i64 i.f4, .string i.f5] 51 (0, 0))) := ⟨blk_alloc (blk_new w _) _⟩
  have BR : Aside0 (((w.alloc (.cells #[.int .u8 i.f0, .int .i64 i.f1, .int .i64 i.f2, .int .i64 i.f3, .int .i64 i.f4, .string i.f5] 51)).alloc (.cells #[.int .i64 regs] 3)).heap[w.heap.size + 1]? = some (.cells #[.int .i64 regs] 3 (0, 0))) := ⟨heap_alloc_at _ _ _ (by simp)⟩
  go_enter Try.func91, Try.ntmps91
  go_wp2_with fail
  refine (uses_any i _).mono ?_
  rintro e w1 ⟨v1, rfl, hR1, hb1⟩
  have HB1 := Aside0.mk (below_step HB0.out hb1)
  have BI1 := blk_below BI.out hb1
  have BR1 := Aside0.mk (blk_below BR.out hb1)
  obtain ⟨A1, c1, rfl, hl1, hC1⟩ := Kd.R_reads hR1
  clear HB0 BI BR hb1 hR1
  have HC1 := Aside0.mk hC1; clear hC1
  have hz := blk_lt BI1
  obtain ⟨i0, i1, i2, i3, i4, i5⟩ := blk6 BI1
  clear BI1
  go_wp2_with fail
  refine (defines_any i _).mono ?_
  rintro e w2 ⟨rfl, hb2⟩
  have HB2 := Aside0.mk (below_step HB1.out hb2)
  have BR2 := Aside0.mk (blk_below BR1.out hb2)
  have HC2 := Aside0.mk (Kd.C_below HC1.out hb2)
  clear HB1 BR1 HC1 hb2 i0 i1 i2 i3 i4 i5 hz
  cases hd : (shp i.f0).d with
  | false =>
    have hz := blk_lt BR2.out
    have HN := Aside0.mk (show (usesL i).any (offReg regs) = false from by
      rw [List.any_eq_false]
      intro r hr
      have := HU.out r (List.mem_append_left _ hr)
      simp [offReg]; omega)
    go_wp2_with fail
    refine (containsFuncInt_any A1 c1 (usesL i) (offReg regs) 106 #[.pointer (some ⟨w.heap.size + 1, 0, none⟩)] w2 HC2.out hl1 (by omega) callFunc_lvInstruction1
      (fun x W _ hW => lvInstruction1_any (w.heap.size + 1) x regs W (blk1 (blk_below BR2.out hW)))).mono ?_
    rintro e w3 ⟨rfl, hb3⟩
    have HB3 := Aside0.mk (below_step HB2.out hb3)
    clear hb3
    go_wp2
    go_ret
    exact ⟨retb (by rw [HN.out]; rfl), HB3.out⟩
  | true =>
    have HN := Aside0.mk (show (usesL i ++ [i.f1]).any (offReg regs) = false from by
      rw [List.any_eq_false]
      intro r hr
      have := HU.out r (by unfold defL; rw [hd]; exact hr)
      simp [offReg]; omega)
    have HD := Aside0.mk hd
    clear hd
    go_wp2_with fail
    refine (cloneInt_any A1 c1 (usesL i) _ HC2.out hl1 (by omega)).mono ?_
    rintro e w3 ⟨v3, rfl, hR3, hb3⟩
    have HO3 := Aside0.mk hR3
    have HB3 := Aside0.mk hb3
    clear hR3 hb3
    have hz3 := HB3.out.size
    obtain ⟨us, hus⟩ : ∃ us : List Int, usesL i ++ [i.f1] = us := ⟨_, rfl⟩
    have hlen : us.length ≤ 9223372036854775806 := by rw [← hus, List.length_append]; simp; omega
    have HUS := Aside0.mk hus; clear hus
    rw [HUS.out] at HN
    go_wp2_with (at_builtin; refine Kd.R_append (Kd.int .i64) (w0 := w2) w2.heap.size rfl (.tmp 25) (.tmp 27) 37 3 (.int .i64 0) 8 rfl Try.underlying37 info3 rfl (by decide) (by decide) v3 (usesL i) i.f1 [.int .i64 i.f1] (fun _ => True) (fun _ => False) rfl rfl ?aP (fun _ hk => hk.elim) (fun _ _ => trivial) ?aO ?aB ?aS ?aL ?_; (case aP => exact rfl); (case aO => exact HO3.out); (case aB => exact HB3.out); (case aS => exact hz3); (case aL => omega); intro v4 w4 hR4 hB4 hg4 hat4; rw [HUS.out] at hR4; have HO4 := Aside0.mk hR4; have HB4 := Aside0.mk hB4; clear hR4 hB4 hg4 hat4 HB3 HO3 hz3; obtain ⟨A4, c4, hv4, hl4, hC4⟩ := Kd.R_reads HO4.out; subst hv4; have HC4 := Aside0.mk hC4; clear hC4 HO4)
    have BR4 := Aside0.mk (blk_below BR2.out HB4.out)
    have HB5 := Aside0.mk (below_step HB2.out HB4.out)
    clear BR2 HB4 HB2
    have HF := Aside0.mk (containsFuncInt_any A4 c4 us (offReg regs) 106 #[.pointer (some ⟨w.heap.size + 1, 0, none⟩)] w4 HC4.out hl4 hlen callFunc_lvInstruction1
      (fun x W _ hW => lvInstruction1_any (w.heap.size + 1) x regs W (blk1 (blk_below BR4.out hW))))
    clear hlen
    refine HF.out.mono ?_
    rintro e w5 ⟨rfl, hb5⟩
    have HB6 := Aside0.mk (below_step HB5.out hb5)
    clear hb5
    go_wp2
    go_ret
    exact ⟨retb (by rw [HN.out]; rfl), HB6.out⟩
end Go.Proofs.Ytadaopfcgpfiiaa
namespace Go.Proofs.Ytadaopfcgpfiiaa
open Go.RowKit Go.Proofs.YtadaopfcgpfiiaaW.PrintWords Go.Proofs.YtadaopfcgpfiiaaW.PrintLast Go.Proofs.YtadaopfcgpfiiaaW.PrintMore PCg
set_option linter.unusedVariables false
set_option linter.unusedSimpArgs false
def succL (b : S49) : List Int := if b.f1 = 1 ∨ (b.f1 = 2 ∧ b.f3 = b.f4) then [b.f3] else if b.f1 = 2 then [b.f3, b.f4] else []
theorem succ_f (b : S49) : ir_Succ.f 3 b.f0 b.f1 b.f2 b.f3 b.f4 = some (succL b) := by
  unfold ir_Succ.f succL
  by_cases h1 : b.f1 = 1
  · simp [h1, ir_Succ.j0]
  · by_cases h2 : b.f1 = 2
    · by_cases h3 : b.f3 = b.f4
      · simp [h2, h3, ir_Succ.j0]
      · simp [h2, h3, ir_Succ.j0]
    · simp [h1, h2, ir_Succ.j0]
theorem succL_len (b : S49) : (succL b).length ≤ 2 := by
  unfold succL
  split
  · simp
  · split <;> simp
/-- a block is well-formed in a function with so many registers and blocks -/
structure BlkWf (regs nb : Int) (b : S49) : Prop where
  k1 : 1 ≤ b.f1
  k3 : b.f1 ≤ 3
  x : b.f1 = 2 → 0 ≤ b.f2 ∧ b.f2 < regs
  succ : ∀ t ∈ succL b, 0 ≤ t ∧ t < nb
  ins : ∀ i ∈ b.f0, insWf regs i
  len : b.f0.length ≤ 9223372036854775806
theorem insWf_of_ok {regs : Int} {arrs shared : List S44} {i : S51} (h : insOk regs arrs shared i = true) : insWf regs i := by
  have hop : 1 ≤ i.f0 ∧ i.f0 ≤ 16 := by
    rcases Decidable.em (1 ≤ i.f0 ∧ i.f0 ≤ 16) with h' | h'
    · exact h'
    · exfalso
      have : (shp i.f0).ok = false := by
        unfold shp
        simp [show i.f0 ≠ 1 from by omega, show i.f0 ≠ 2 from by omega, show i.f0 ≠ 3 from by omega, show i.f0 ≠ 4 from by omega, show i.f0 ≠ 5 from by omega, show i.f0 ≠ 6 from by omega, show i.f0 ≠ 7 from by omega, show i.f0 ≠ 8 from by omega, show i.f0 ≠ 9 from by omega, show i.f0 ≠ 10 from by omega, show i.f0 ≠ 11 from by omega, show i.f0 ≠ 12 from by omega, show i.f0 ≠ 13 from by omega, show i.f0 ≠ 14 from by omega, show i.f0 ≠ 15 from by omega, show i.f0 ≠ 16 from by omega]
      simp [insOk, this] at h
  refine ⟨hop.1, hop.2, ?_⟩
  simp only [insOk, Bool.and_eq_true, decide_eq_true_eq] at h
  obtain ⟨⟨⟨⟨⟨⟨_, hd⟩, hy⟩, _⟩, _⟩, hx⟩, _⟩ := h
  have hx' : (shp i.f0).x = true → regOk true i.f2 regs = true := by
    intro hxx
    unfold xOk at hx
    by_cases h16 : i.f0 = 16
    · rw [h16] at hxx
      simp [shp] at hxx
    · rw [if_neg h16, hxx] at hx
      exact hx
  intro r hr
  have key : ∀ q : Int, regOk true q regs = true → 0 ≤ q ∧ q < regs := fun q hq => by simpa [regOk] using hq
  simp only [usesL, defL, List.mem_append] at hr
  rcases hr with (hr | hr) | hr
  · cases hq : (shp i.f0).x <;> simp [hq] at hr
    subst hr; exact key _ (hx' hq)
  · cases hq : (shp i.f0).y <;> simp [hq] at hr
    subst hr; rw [hq] at hy; exact key _ hy
  · cases hq : (shp i.f0).d <;> simp [hq] at hr
    subst hr; rw [hq] at hd; exact key _ hd
theorem blkWf_of_ok {regs nb : Int} {arrs shared : List S44} {b : S49} (h : blkOk regs nb arrs shared b = true) (hl : b.f0.length ≤ 9223372036854775806) : BlkWf regs nb b := by
  simp only [blkOk, Bool.and_eq_true] at h
  obtain ⟨he, hi⟩ := h
  rw [List.all_eq_true] at hi
  have hk : b.f1 = 1 ∨ b.f1 = 2 ∨ b.f1 = 3 := by
    unfold endOk at he
    by_cases h1 : b.f1 = 1
    · exact .inl h1
    · by_cases h2 : b.f1 = 2
      · exact .inr (.inl h2)
      · rw [if_neg h1, if_neg h2] at he
        simp at he
        exact .inr (.inr he.1.1.1)
  refine ⟨by omega, by omega, ?_, ?_, fun i hi' => insWf_of_ok (hi i hi'), hl⟩
  · intro h2
    simp [endOk, h2] at he
    omega
  · intro t ht
    rcases hk with h1 | h1 | h1
    · simp [endOk, h1, tgtOk] at he
      simp [succL, h1] at ht
      omega
    · simp [endOk, h1, tgtOk] at he
      by_cases h3 : b.f3 = b.f4
      · simp [succL, h1, h3] at ht
        omega
      · simp [succL, h1, h3] at ht
        omega
    · simp [succL, h1] at ht
end Go.Proofs.Ytadaopfcgpfiiaa
namespace Go.Proofs.Ytadaopfcgpfiiaa
open Go.RowKit Go.Proofs.YtadaopfcgpfiiaaW.PrintWords Go.Proofs.YtadaopfcgpfiiaaW.PrintLast Go.Proofs.YtadaopfcgpfiiaaW.PrintMore PCg
set_option linter.unusedVariables false
set_option linter.unusedSimpArgs false
theorem succ_any (A : Option Addr) (c : Nat) (b : S49) (w : World) (hr : Kd.C k51 w A b.f0.length b.f0) (hcp : b.f0.length ≤ c) :
    Calls Try.prog 90 #[.agg #[.slice A b.f0.length c, .int .u8 b.f1, .int .i64 b.f2, .int .i64 b.f3, .int .i64 b.f4]] w fun e w' => ∃ v, e = .returned v ∧ Kd.R (Kd.int .i64) 3 w' w.heap.size (fun _ => True) v (succL b) ∧ Below w.heap.size w w' :=
  ir_Succ.calls 3 A c _ _ _ _ _ _ w hr hcp (succ_f b)
theorem mem_rd {α : Type} {xs : List α} {z : α} {i : Int} (h0 : 0 ≤ i) (h1 : i < xs.length) : xs.getD i.toNat z ∈ xs := by
  rw [List.getD_eq_getElem?_getD, List.getElem?_eq_getElem (by omega)]
  simp
set_option maxRecDepth 100000 in
set_option maxHeartbeats 2000000 in
theorem wellFormed_any (nm : ByteArray) (regs : Int) (A : Option Addr) (n c : Nat) (A3 : Option Addr) (c3 : Nat) (blks : List S49) (w : World)
    (hr3 : Kd.C k49 w A3 blks.length blks) (hcp3 : blks.length ≤ c3) (hm3 : blks.length ≤ 9223372036854775806)
    (q1 : 0 < blks.length) (q2 : 0 ≤ regs) (q3 : regs ≤ 10000) (hwf : ∀ b ∈ blks, BlkWf regs blks.length b) :
    Calls Try.prog 65 #[.agg #[.string nm, .int .i64 regs, .slice A n c, .slice A3 blks.length c3]] w fun e w' => e = .returned (.bool true) ∧ Below w.heap.size w w' := by
  have HR3 := Aside0.mk hr3; clear hr3
  have HWF := Aside0.mk hwf; clear hwf
  have hu := Try.underlying51
  have hu2 := Try.underlying49
  have hu3 := Try.underlying25
  have q1b : ((blks.length : Int) == 0) = false := beq_eq_false_iff_ne.2 (by omega)
  have HBF : Aside0 (Below w.heap.size w (w.alloc (.cells #[.string nm, .int .i64 regs, .slice A n c, .slice A3 blks.length c3] 25))) := ⟨(Below.refl _ _).alloc (Nat.le_refl _) _⟩
  go_enter Try.func65, Try.ntmps65
  go_wp2_with fail
  go_loopw [26] (fun i wr => ∃ k : Int, i = .int .i64 k ∧ 0 ≤ k ∧ k ≤ blks.length ∧ Aside0 (Below w.heap.size w wr) ∧
      Aside0 (wr.heap[w.heap.size]? = some (.cells #[.string nm, .int .i64 regs, .slice A n c, .slice A3 blks.length c3] 25 (0, 0)))) (fun i wr => blks.length - (intOf i).toNat)
  case atStart => exact ⟨0, rfl, Int.le_refl _, by omega, HBF, ⟨blk_new w _⟩⟩
  case round =>
    obtain ⟨k, rfl, hk0, hk, HB, BF⟩ := hrel
    by_cases hlt : k < blks.length
    · obtain ⟨ad, A5, c5, hA, h0, h1, h2, h3, h4, hl5, hr5⟩ := at_T49 HR3.out k hk0 hlt
      cases hA
      have hb : BlkWf regs blks.length (rd_T49 blks k) := HWF.out _ (mem_rd hk0 hlt)
      replace h0 := (HB.out.cell (World.block_lt_of_cell? w _ h0)).trans h0
      replace h1 := (HB.out.cell (World.block_lt_of_cell? w _ h1)).trans h1
      replace h2 := (HB.out.cell (World.block_lt_of_cell? w _ h2)).trans h2
      replace h3 := (HB.out.cell (World.block_lt_of_cell? w _ h3)).trans h3
      replace h4 := (HB.out.cell (World.block_lt_of_cell? w _ h4)).trans h4
      have HR5 := Aside0.mk hr5; clear hr5
      have p110 := eq_true hk0
      have q110 := eq_true hlt
      generalize rd_T49 blks k = b at *
      obtain ⟨o1, o3, hx, hs, hi, hil⟩ := hb
      have HX := Aside0.mk hx; have HS := Aside0.mk hs; have HI := Aside0.mk hi
      clear hx hs hi
      obtain ⟨f0, f1, f2, f3⟩ := blk4 BF.out
      have hz0 := blk_lt BF.out
      have HP : Aside0 (Below w.heap.size w (wr.alloc (.cells #[.slice A5 b.f0.length c5, .int .u8 b.f1, .int .i64 b.f2, .int .i64 b.f3, .int .i64 b.f4] 49))) := ⟨below_alloc HB.out _⟩
      have BA6 := blk_new wr (.cells #[.slice A5 b.f0.length c5, .int .u8 b.f1, .int .i64 b.f2, .int .i64 b.f3, .int .i64 b.f4] 49)
      have BF6 := blk_alloc BF.out (.cells #[.slice A5 b.f0.length c5, .int .u8 b.f1, .int .i64 b.f2, .int .i64 b.f3, .int .i64 b.f4] 49)
      have hcase : ((b.f1 == 2) = true ∧ 0 ≤ b.f2 ∧ b.f2 < regs) ∨ (b.f1 == 2) = false := by
        by_cases hk2 : b.f1 = 2
        · exact .inl ⟨beq_iff_eq.2 hk2, HX.out hk2⟩
        · exact .inr (beq_eq_false_iff_ne.2 hk2)
      clear HX
      have HBA := Aside0.mk BA6; have HBF6 := Aside0.mk BF6
      clear BA6 BF6
      rcases hcase with ⟨g1, g2, g3⟩ | g1
      all_goals
        go_wp2_with fail
        refine (succ_any A5 c5 b _ (Kd.C_below HR5.out HP.out) hl5).mono ?_
        rintro e w1 ⟨v1, rfl, hR1, hb1⟩
        have HB1 := Aside0.mk (below_step HP.out hb1)
        have BA1 := blk_below HBA.out hb1
        have BF1 := blk_below HBF6.out hb1
        clear hb1 h0 h1 h2 h3 h4 f0 f1 f2 f3 hz0 g1
        obtain ⟨a0, a1, a2, a3, a4⟩ := blk5 BA1
        obtain ⟨f0, f1, f2, f3⟩ := blk4 BF1
        have HBA1 := Aside0.mk BA1; have HBF1 := Aside0.mk BF1
        clear BA1 BF1
        obtain ⟨A7, c7, hv7, hl7, hC7⟩ := Kd.R_reads hR1
        subst hv7
        have HC7 := Aside0.mk hC7
        clear hR1 hC7
        have hL := succL_len b
        go_wp2_with fail
        go_loop [58] (fun i => ∃ k2 : Int, i = .int .i64 k2 ∧ 0 ≤ k2 ∧ k2 ≤ (succL b).length) (fun i => (succL b).length - (intOf i).toNat)
        case atStart => exact ⟨0, rfl, Int.le_refl _, by omega⟩
        case round =>
          obtain ⟨k2, rfl, hk20, hk2⟩ := hrel
          by_cases hlt2 : k2 < (succL b).length
          · obtain ⟨ad7, hA7, e0⟩ := Kd.at_int HC7.out k2 hk20 hlt2
            cases hA7
            have hr := HS.out (rd (succL b) k2) (mem_rd hk20 hlt2)
            have r1 : 0 ≤ rd (succL b) k2 := hr.1
            have r2 : rd (succL b) k2 < blks.length := hr.2
            clear hr
            have p2 := eq_true hk20
            have q2' := eq_true hlt2
            go_wp2
            go_round
            case rel => exact ⟨k2 + 1, rfl, by omega, by omega⟩
            case measure => simp [intOf]; omega
          · clear HS HC7
            go_wp2_with fail
            go_loopw [75] (fun i wr2 => ∃ k3 : Int, i = .int .i64 k3 ∧ 0 ≤ k3 ∧ k3 ≤ b.f0.length ∧ Aside0 (Below w1.heap.size w1 wr2)) (fun i wr2 => b.f0.length - (intOf i).toNat)
            case atStart => exact ⟨0, rfl, Int.le_refl _, by omega, ⟨Below.refl _ _⟩⟩
            case round =>
              obtain ⟨k3, rfl, hk30, hk3, HB3⟩ := hrel
              clear a0 a1 a2 a3 a4 f0 f1 f2 f3
              obtain ⟨f0, f1, f2, f3⟩ := blk4 (blk_below HBF1.out HB3.out)
              have hz3 := blk_lt (blk_below HBF1.out HB3.out)
              by_cases hlt3 : k3 < b.f0.length
              · obtain ⟨ad8, hA8, i0, i1, i2, i3, i4, i5⟩ := at_T51 HR5.out k3 hk30 hlt3
                cases hA8
                replace i0 := ((below_step HB1.out HB3.out).cell (World.block_lt_of_cell? w _ i0)).trans i0
                replace i1 := ((below_step HB1.out HB3.out).cell (World.block_lt_of_cell? w _ i1)).trans i1
                replace i2 := ((below_step HB1.out HB3.out).cell (World.block_lt_of_cell? w _ i2)).trans i2
                replace i3 := ((below_step HB1.out HB3.out).cell (World.block_lt_of_cell? w _ i3)).trans i3
                replace i4 := ((below_step HB1.out HB3.out).cell (World.block_lt_of_cell? w _ i4)).trans i4
                replace i5 := ((below_step HB1.out HB3.out).cell (World.block_lt_of_cell? w _ i5)).trans i5
                have HW := Aside0.mk (HI.out (rd_T51 b.f0 k3) (mem_rd hk30 hlt3))
                have p3 := eq_true hk30
                have q3' := eq_true hlt3
                go_wp2_with fail
                refine (lvInstruction_any (rd_T51 b.f0 k3) regs _ HW.out).mono ?_
                rintro e w4 ⟨rfl, hb4⟩
                have HB4 := Aside0.mk (below_step (below_alloc HB3.out _) hb4)
                clear hb4 i0 i1 i2 i3 i4 i5 f0 f1 f2 f3 hz3
                go_wp2
                go_roundw
                case rel => exact ⟨k3 + 1, rfl, by omega, by omega, HB4⟩
                case measure => simp [intOf]; omega
              · go_wp2
                go_roundw
                case rel => exact ⟨k + 1, rfl, by omega, by omega, ⟨below_step HB1.out HB3.out⟩, ⟨blk_below HBF1.out HB3.out⟩⟩
                case measure => simp [intOf]; omega
    · go_wp2
      go_ret
      exact ⟨rfl, HB.out⟩
end Go.Proofs.Ytadaopfcgpfiiaa
namespace Go.Proofs.Ytadaopfcgpfiiaa
open Go.RowKit Go.Proofs.YtadaopfcgpfiiaaW.PrintWords Go.Proofs.YtadaopfcgpfiiaaW.PrintLast Go.Proofs.YtadaopfcgpfiiaaW.PrintMore PCg
set_option linter.unusedVariables false
set_option linter.unusedSimpArgs false
/-- what a state grows by -/
def Sz (st : GSt) (n : Nat) (st' : GSt) : Prop := st'.code.length ≤ st.code.length + n ∧ st'.refs.length ≤ st.refs.length + 1 ∧ st'.starts = st.starts ∧ st'.patches = st.patches
theorem sz_ite {c : Prop} [Decidable c] {st a b : GSt} {n : Nat} (ha : Sz st n a) (hb : Sz st n b) : Sz st n (if c then a else b) := by split; exact ha; exact hb
theorem sz_emit {st : GSt} {l : List S53} {n : Nat} (h : l.length ≤ n) : Sz st n (st.emit l) := ⟨by simp [GSt.emit]; exact h, by simp [GSt.emit], rfl, rfl⟩
theorem sz_emit_refer {st : GSt} {l : List S53} {x : S53} {nm : ByteArray} {n : Nat} (h : l.length + 1 ≤ n) : Sz st n ((st.emit l).refer x nm) := ⟨by simp [GSt.emit, GSt.refer]; omega, by simp [GSt.emit, GSt.refer], rfl, rfl⟩
theorem sz_refer {st : GSt} {x : S53} {nm : ByteArray} {n : Nat} (h : 1 ≤ n) : Sz st n (st.refer x nm) := ⟨by simp [GSt.refer]; omega, by simp [GSt.refer], rfl, rfl⟩
theorem genDef1_sz (sp : Int) (pl : List (Int × Int)) (m : ByteArray → Int) (st : GSt) (i : S51) : Sz st 6 (genDef1 sp pl m st i) := by
  have h1 := useCode_len sp (rdTwo pl i.f2) 14
  have h2 := useCode_len sp (rdTwo pl i.f3) 15
  have h4 := constCode_len (useReg (rdTwo pl i.f1) 14) (wrap32 i.f4)
  have h5 := binCode_len i.f4 (useReg (rdTwo pl i.f1) 14) (useReg (rdTwo pl i.f2) 14) (useReg (rdTwo pl i.f3) 15)
  unfold genDef1
  repeat' refine sz_ite ?_ ?_
  all_goals first
    | (refine sz_emit ?_; simp only [List.length_append, List.length_cons, List.length_nil]; omega)
    | (refine sz_emit ?_; omega)
    | (refine sz_emit_refer ?_; omega)
    | exact ⟨by omega, by omega, rfl, rfl⟩
theorem genDef_sz (sp : Int) (pl : List (Int × Int)) (m : ByteArray → Int) (st : GSt) (i : S51) : Sz st 7 (genDef sp pl m st i) := by
  have h3 := storeCode_len sp (rdTwo pl i.f1)
  obtain ⟨a1, a2, a3, a4⟩ := genDef1_sz sp pl m st i
  exact ⟨by simp only [genDef, GSt.emit, List.length_append]; omega, a2, a3, a4⟩
theorem genIns_sz (sp : Int) (pl : List (Int × Int)) (m : ByteArray → Int) (st : GSt) (i : S51) : Sz st 8 (genIns sp pl m st i) := by
  have h1 := useCode_len sp (rdTwo pl i.f2) 14
  have h2 := useCode_len sp (rdTwo pl i.f3) 15
  unfold genIns
  repeat' refine sz_ite ?_ ?_
  all_goals first
    | (obtain ⟨a1, a2, a3, a4⟩ := genDef_sz sp pl m st i; exact ⟨by omega, a2, a3, a4⟩)
    | (refine sz_emit ?_; simp only [List.length_append, List.length_cons, List.length_nil]; omega)
    | (refine sz_emit_refer ?_; simp only [List.length_append]; omega)
    | (refine sz_refer ?_; omega)
def genCode (sp : Int) (pl : List (Int × Int)) (m : ByteArray → Int) (st : GSt) (l : List S51) : GSt := l.foldl (genIns sp pl m) st
theorem genCode_sz (sp : Int) (pl : List (Int × Int)) (m : ByteArray → Int) (l : List S51) : ∀ st : GSt,
    (genCode sp pl m st l).code.length ≤ st.code.length + 8 * l.length ∧ (genCode sp pl m st l).refs.length ≤ st.refs.length + l.length ∧ (genCode sp pl m st l).starts = st.starts ∧ (genCode sp pl m st l).patches = st.patches := by
  induction l with
  | nil => intro st; exact ⟨Nat.le_refl _, Nat.le_refl _, rfl, rfl⟩
  | cons i l ih =>
    intro st
    obtain ⟨a1, a2, a3, a4⟩ := genIns_sz sp pl m st i
    obtain ⟨b1, b2, b3, b4⟩ := ih (genIns sp pl m st i)
    refine ⟨?_, ?_, b3.trans a3, b4.trans a4⟩ <;> simp only [genCode, List.foldl_cons, List.length_cons] at * <;> omega
theorem genCode_step (sp : Int) (pl : List (Int × Int)) (m : ByteArray → Int) (st : GSt) (l : List S51) (k : Int) (h0 : 0 ≤ k) (h1 : k < l.length) :
    genIns sp pl m (genCode sp pl m st (l.take k.toNat)) (rd_T51 l k) = genCode sp pl m st (l.take (k + 1).toNat) := by
  rw [show (k + 1).toNat = k.toNat + 1 from by omega, List.take_add_one, List.getElem?_eq_getElem (by omega)]
  simp only [genCode, Option.toList_some, List.foldl_append, List.foldl_cons, List.foldl_nil, rd_T51, List.getD_eq_getElem?_getD]
  rw [List.getElem?_eq_getElem (by omega)]
  rfl
def GSt.start (st : GSt) : GSt := { st with starts := st.starts ++ [(st.code.length : Int)] }
/-- the code of block k -/
def genBlk (sp : Int) (pl : List (Int × Int)) (m : ByteArray → Int) (st : GSt) (k : Int) (b : S49) : GSt :=
  let st2 := genCode sp pl m st.start b.f0
  if b.f1 = 3 then st2.emit [⟨1, 0, 0, 0, 0⟩]
  else if b.f1 = 2 then
    let st3 := (st2.emit (useCode sp (rdTwo pl b.f2) 14)).leap ⟨23, useReg (rdTwo pl b.f2) 14, 0, 0, 0⟩ b.f3
    if b.f4 = k + 1 then st3 else st3.leap ⟨24, 0, 0, 0, 0⟩ b.f4
  else if b.f3 = k + 1 then st2 else st2.leap ⟨24, 0, 0, 0, 0⟩ b.f3
def blkPre (n : Nat) (b : S49) : Prop := (∀ i ∈ b.f0, insPre n i ∧ i.f5.size ≤ maxLen) ∧ (b.f1 = 2 → regIn n b.f2)
theorem infoINT : (Try.prog.info? 3).map (fun i => (i.zero, i.size, i.bytes)) = some (some (.int .i64 0), 1, 8) := by kernel_rfl
theorem one_int {W : World} {b t : Nat} {i : Int} (h : W.heap[b]? = some (.cells #[.int .i64 i] t (0, 0))) : Kd.C (Kd.int .i64) W (some ⟨b, 0, none⟩) 1 [i] := by
  refine ⟨rfl, by omega, fun _ => ⟨⟨b, 0, none⟩, rfl, fun j p hj => ?_⟩⟩
  match j, hj with
  | 0, hj =>
    have hp : i = p := by simpa using hj
    subst hp
    refine ⟨[.int .i64 i], rfl, rfl, fun q u hu => ?_⟩
    have ha : (⟨b, 0, none⟩ : Addr).add (0 * (Kd.int .i64).sz + q) = ⟨b, q, none⟩ := by rw [Nat.zero_mul, Nat.zero_add]; exact add_plain b q
    rw [ha, blk_cell h q]
    simpa using hu
  | j + 1, hj => simp at hj
theorem ins_post {w0 : World} {g : Nat} {O : Nat → Prop} {E : GEnv} {st : GSt} {w2 W w : World} (h : GPost w0.heap.size g O E w2 st W) (hk : Below W.heap.size W w) (hB2 : Below w0.heap.size w0 w2)
    (Ap : Option Addr) (cp : Nat) (places : List (Int × Int)) (N : Nat) (m : ByteArray → Int) (i : S51) (hP : Kd.C kTwo w0 Ap places.length places) (hpv : E.pv = .slice Ap places.length cp)
    (hM : GMap w2 E.mb N m) (hmg : E.mb ≠ g) (hmO : ¬ O E.mb) (s0 : 0 ≤ E.spill) (s1 : E.spill ≤ 1000000) (hpl : ∀ v, (rdTwo places v).2 ≤ 1000000)
    (hsz : st.code.length + 12 ≤ 1000000) (hrz : st.refs.length + 1 ≤ 1000000) (hns : i.f5.size ≤ maxLen) (hi : insPre places.length i) :
    Calls Try.prog 49 #[.pointer (some ⟨g, 0, none⟩), .agg #[.int .u8 i.f0, .int .i64 i.f1, .int .i64 i.f2, .int .i64 i.f3, .int .i64 i.f4, .string i.f5]] w
      fun e w' => e = .returned (.tuple #[]) ∧ GPost w0.heap.size g O E w2 (genIns E.spill places m st i) w' := by
  have hB := h.base
  have hb := (hB2.trans (gpost_below h)).trans (hk.mono hB)
  have hM' := (hM.post h hmg hmO).below hk
  have hml := hM.lt
  obtain ⟨O1, hG, hO, hk1⟩ := h
  have hmO1 : ¬ O1 E.mb := fun h3 => by
    rcases hO _ h3 with h | h
    · exact hmO h
    · omega
  exact (instruction_any w0 g O1 E st Ap cp places N m i w (hG.below hk) hb hP hpv hM' hmg hmO1 s0 s1 hpl hsz hrz hns hi).mono (fun e w' ⟨r, q⟩ => ⟨r, GPost.trans hk1 hO (GPost.pre hB hk q)⟩)
set_option maxRecDepth 100000 in
set_option maxHeartbeats 4000000 in
theorem block_any (w0 : World) (g : Nat) (O : Nat → Prop) (E : GEnv) (st : GSt) (Ap : Option Addr) (cp : Nat) (places : List (Int × Int)) (N : Nat) (m : ByteArray → Int) (A3 : Option Addr) (c3 : Nat) (blks : List S49) (k : Int) (w : World)
    (hG : Gen w w0.heap.size g O E st) (hB : Below w0.heap.size w0 w) (hP : Kd.C kTwo w0 Ap places.length places) (hpv : E.pv = .slice Ap places.length cp)
    (hr3 : Kd.C k49 w0 A3 blks.length blks) (hcp3 : blks.length ≤ c3) (hm3 : blks.length ≤ 1000000) (hbv : E.bv = .slice A3 blks.length c3) (k0 : 0 ≤ k) (k1 : k < blks.length)
    (hM : GMap w E.mb N m) (hmg : E.mb ≠ g) (hmO : ¬ O E.mb) (s0 : 0 ≤ E.spill) (s1 : E.spill ≤ 1000000) (hpl : ∀ v, (rdTwo places v).2 ≤ 1000000)
    (hpre : blkPre places.length (rd_T49 blks k))
    (hsz : st.code.length + 8 * (rd_T49 blks k).f0.length + 20 ≤ 1000000) (hrz : st.refs.length + (rd_T49 blks k).f0.length + 1 ≤ 1000000) (hsz2 : st.starts.length + 1 ≤ 1000000) (hsz3 : st.patches.length + 2 ≤ 1000000) :
    Calls Try.prog 30 #[.pointer (some ⟨g, 0, none⟩), .int .i64 k] w
      fun e w' => e = .returned (.tuple #[]) ∧ GPost w0.heap.size g O E w (genBlk E.spill places m st k (rd_T49 blks k)) w' := by
  have hg0 := hG.lt
  have hm0 := hM.lt
  have hn : ∀ k, w.heap.size ≤ k → ¬ O k := fun k hk ho => by obtain ⟨_, _, _, _, _, _, _, hO, _⟩ := hG; have := hO _ ho; omega
  have hBw : w0.heap.size ≤ w.heap.size := by obtain ⟨_, _, _, _, _, _, h, _⟩ := hG; exact h
  obtain ⟨ad, A5, c5, hA, h0, h1, h2, h3, h4, hl5, hr5⟩ := at_T49 hr3 k k0 k1
  cases hA
  replace h0 := (hB.cell (World.block_lt_of_cell? w0 _ h0)).trans h0
  replace h1 := (hB.cell (World.block_lt_of_cell? w0 _ h1)).trans h1
  replace h2 := (hB.cell (World.block_lt_of_cell? w0 _ h2)).trans h2
  replace h3 := (hB.cell (World.block_lt_of_cell? w0 _ h3)).trans h3
  replace h4 := (hB.cell (World.block_lt_of_cell? w0 _ h4)).trans h4
  have HN := Aside0.mk hn
  have HBw := Aside0.mk hBw
  have HG := Aside0.mk hG; have HB := Aside0.mk hB; have HP := Aside0.mk hP; have HPV := Aside0.mk hpv; have HM := Aside0.mk hM; have HNM := Aside0.mk hmO
  have HR5 := Aside0.mk hr5
  have HR3 := Aside0.mk hr3
  have cg7 : w.cell? ⟨g, 7, none⟩ = some (.slice (some ad) blks.length c3) := by
    obtain ⟨_, _, _, _, hb, _⟩ := hG
    exact (blk_cell hb 7).trans (by rw [← hbv]; rfl)
  clear hG hB hP hpv hM hn hmO hr5 hr3 hBw
  have p110 := eq_true k0
  have q110 := eq_true k1
  generalize rd_T49 blks k = b at *
  obtain ⟨hpi, hpx⟩ := hpre
  have HPI := Aside0.mk hpi; have HPX := Aside0.mk hpx
  clear hpi hpx
  have hu := Try.underlying49
  have hu2 := Try.underlying90
  have hu3 := Try.underlying51
  have hu4 := Try.underlying25
  have hu5 := Try.underlying31
  obtain ⟨W, hW⟩ : ∃ W, w.alloc (.cells #[.slice A5 b.f0.length c5, .int .u8 b.f1, .int .i64 b.f2, .int .i64 b.f3, .int .i64 b.f4] 49) = W := ⟨_, rfl⟩
  have hbW : Below w.heap.size w W := by rw [← hW]; exact below_alloc (Below.refl _ _) _
  have hbb : W.heap[w.heap.size]? = some (.cells #[.slice A5 b.f0.length c5, .int .u8 b.f1, .int .i64 b.f2, .int .i64 b.f3, .int .i64 b.f4] 49 (0, 0)) := by rw [← hW]; exact blk_new _ _
  have HBW := Aside0.mk hbW
  have HBB := Aside0.mk hbb
  have HGW := Aside0.mk (HG.out.below hbW)
  have HMW : Aside0 (GMap W E.mb N m) := ⟨HM.out.below hbW⟩
  have HWW : Aside0 (Below w0.heap.size w0 W) := ⟨HB.out.trans (hbW.mono HBw.out)⟩
  have HNB : Aside0 (¬ O w.heap.size) := ⟨HN.out _ (Nat.le_refl _)⟩
  have hnB : w.heap.size ≠ g := by omega
  clear hbW
  obtain ⟨vc, vr, vs, vp, hb, hBg, hBW, hO, r1, r2, r3, r4⟩ := HGW.out
  have c1 : W.cell? ⟨g, 1, none⟩ = some vc := (blk_cell hb 1).trans rfl
  have c12 : W.cell? ⟨g, 12, none⟩ = some vs := (blk_cell hb 12).trans rfl
  have f12 : W.frozen? ⟨g, 12, none⟩ = false := blk_frozen hb 12
  have hlt := blk_lt hb
  have hne : some g ≠ vs.ownBlock := Kd.R_ne r3 hb (by decide)
  obtain ⟨Ac, cc, hvc⟩ := Kd.R_slice r1
  obtain ⟨As, cs, hvs⟩ := Kd.R_slice r3
  subst hvc hvs
  obtain ⟨b0, b1, b2, b3, b4⟩ := blk5 hbb
  have hlb := blk_lt hbb
  have HBk := Aside0.mk hb; have HO := Aside0.mk hO; have HR1 := Aside0.mk r1; have HR2 := Aside0.mk r2; have HRS := Aside0.mk r3; have HR4 := Aside0.mk r4
  clear hb hO r1 r2 r3 r4 hbb
  go_enter Try.func30, Try.ntmps30
  go_wp2_with fail
  obtain ⟨W7, hW7⟩ : ∃ W7, (W.alloc (.cells #[.int .i64 st.code.length] 3)).drew = W7 := ⟨_, rfl⟩
  have HB7 : Aside0 (Below W.heap.size W W7) := ⟨by rw [← hW7]; exact below_drew (below_alloc (Below.refl _ _) _)⟩
  have HR7 : Aside0 (Kd.C (Kd.int .i64) W7 (some ⟨W.heap.size, 0, none⟩) 1 [(st.code.length : Int)]) := ⟨by rw [← hW7]; exact one_int (blk_drew (blk_new _ _))⟩
  have hB7 := Nat.le_trans hBW HB7.out.size
  have HO7 := Aside0.mk (Kd.R_mono (ok' := fun k => O k ∨ W7.heap.size ≤ k) (Kd.R_below HRS.out HB7.out) (fun _ h => .inl h))
  have hb7 := blk_below HBk.out HB7.out
  have d1 : W7.cell? ⟨g, 1, none⟩ = some (.slice Ac st.code.length cc) := (blk_cell hb7 1).trans rfl
  have d3 : W7.cell? ⟨g, 12, none⟩ = some (.slice As st.starts.length cs) := (blk_cell hb7 12).trans rfl
  have e3 : W7.frozen? ⟨g, 12, none⟩ = false := blk_frozen hb7 12
  have hlt7 := blk_lt hb7
  have HBk7 := Aside0.mk hb7
  clear hb7
  go_region_law ((refine Kd.R_append_rows_step (Kd.int .i64) (Rr := (Kd.int .i64).K W7) (w0 := W7) (W := W7) w0.heap.size rfl (.tmp 20) (.tmp 27) 37 3 _ 8 rfl Try.underlying37 infoINT rfl (by decide) (by decide) (.slice As st.starts.length cs) st.starts [(st.code.length : Int)] (some ⟨W.heap.size, 0, none⟩) 1 1 (fun k => O k ∨ W7.heap.size ≤ k) (fun _ => False) rfl rfl HO7.out HR7.out ?_ (fun _ h => h.elim) (fun _ hk => .inr hk) (Below.refl _ _) hB7 ?_ ?_
                  (intro x cs hx; exact hx)
                  (omega)
                  intro v1 w1 hR1 hB1 hg1 hat1
                  have HN1 := Aside0.mk hR1
                  have HB1 := Aside0.mk hB1
                  have HG1 := Aside0.mk hg1
                  have hb1 := blk_grown HBk7.out hg1 hne
                  have c3' : w1.cell? ⟨g, 12, none⟩ = some (.slice As st.starts.length cs) := (blk_cell hb1 12).trans rfl
                  have f3' : w1.frozen? ⟨g, 12, none⟩ = false := blk_frozen hb1 12
                  have hlt1 := blk_lt hb1
                  clear hR1 hB1 hg1 hat1 hb1
                  obtain ⟨A1, cc1, hv1⟩ := Kd.R_slice HN1.out
                  subst hv1))
  all_goals (
    have hp8 := GPost.pre hBW HB7.out (gput_starts HBk7.out hBg hB7 (fun k hk => Nat.lt_of_lt_of_le (HO.out k hk) HB7.out.size) (Kd.R_below HR1.out HB7.out) (Kd.R_below HR2.out HB7.out) (Kd.R_below HRS.out HB7.out) (Kd.R_below HR4.out HB7.out) HG1.out HB1.out HN1.out)
    rw [show (st.starts ++ [(st.code.length : Int)]).length = st.starts.length + 1 from by simp] at hp8
    clear HR7 HO7 HB1 HN1 HG1 c1 c12 f12 c3' f3' d1 d3 e3 HBk7 hlt1
    generalize w1.setCell ⟨g, 12, none⟩ (.slice A1 (st.starts.length + 1) cc1) = W8 at *
    have HQ8 : Aside0 (GPost w0.heap.size g O E W st.start W8) := ⟨hp8⟩
    clear hp8
    have hbb8 := gpost_blk HQ8.out HBB.out hnB HNB.out
    clear b0 b1 b2 b3 b4 hlb h0 h1 h2 h3 h4
    obtain ⟨b0, b1, b2, b3, b4⟩ := blk5 hbb8
    have hlb := blk_lt hbb8
    have hgW : g < W8.heap.size := Nat.lt_of_lt_of_le hlt (gpost_size HQ8.out)
    clear hbb8 W7 hB7 hlt7 hW7 HB7
    go_wp2_with fail
    clear b0 b1 b2 b3 b4 hlb
    go_loopw [34] (fun i wr => ∃ q : Int, i = .int .i64 q ∧ 0 ≤ q ∧ q ≤ b.f0.length ∧ Aside0 (GPost w0.heap.size g O E W (genCode E.spill places m st.start (b.f0.take q.toNat)) wr)) (fun i wr => b.f0.length - (intOf i).toNat)
    case atStart => exact ⟨0, rfl, Int.le_refl _, by omega, HQ8⟩
    case round =>
      obtain ⟨q, rfl, hq0, hq, HQ⟩ := hrel
      by_cases hlt2 : q < b.f0.length
      · obtain ⟨ad8, hA8, i0, i1, i2, i3, i4, i5⟩ := at_T51 HR5.out q hq0 hlt2
        cases hA8
        have HWr : Aside0 (Below w0.heap.size w0 wr) := ⟨HWW.out.trans (gpost_below HQ.out)⟩
        replace i0 := (HWr.out.cell (World.block_lt_of_cell? w0 _ i0)).trans i0
        replace i1 := (HWr.out.cell (World.block_lt_of_cell? w0 _ i1)).trans i1
        replace i2 := (HWr.out.cell (World.block_lt_of_cell? w0 _ i2)).trans i2
        replace i3 := (HWr.out.cell (World.block_lt_of_cell? w0 _ i3)).trans i3
        replace i4 := (HWr.out.cell (World.block_lt_of_cell? w0 _ i4)).trans i4
        replace i5 := (HWr.out.cell (World.block_lt_of_cell? w0 _ i5)).trans i5
        have HI := Aside0.mk (HPI.out (rd_T51 b.f0 q) (mem_rd hq0 hlt2))
        have HZ := Aside0.mk (genCode_sz E.spill places m (b.f0.take q.toNat) st.start)
        have hzl : (b.f0.take q.toNat).length = q.toNat := by rw [List.length_take]; omega
        have HST := Aside0.mk (genCode_step E.spill places m st.start b.f0 q hq0 hlt2)
        have p3 := eq_true hq0
        have q3' := eq_true hlt2
        go_wp2_with fail
        refine (ins_post HQ.out (below_alloc (Below.refl _ _) _) HWW.out Ap cp places N m (rd_T51 b.f0 q) HP.out HPV.out HMW.out hmg HNM.out s0 s1 hpl ?_ ?_ HI.out.2 HI.out.1).mono ?_
        · have h := HZ.out.1; rw [hzl] at h; simp only [GSt.start] at h ⊢; omega
        · have h := HZ.out.2.1; rw [hzl] at h; simp only [GSt.start] at h ⊢; omega
        rintro e w4 ⟨rfl, hb4⟩
        rw [HST.out] at hb4
        have HB4 := Aside0.mk hb4
        clear hb4 i0 i1 i2 i3 i4 i5
        go_wp2
        go_roundw
        case rel => exact ⟨q + 1, rfl, by omega, by omega, HB4⟩
        case measure => simp [intOf]; omega
      · have hqe : q.toNat = b.f0.length := by omega
        have HQ9 : Aside0 (GPost w0.heap.size g O E W (genCode E.spill places m st.start b.f0) wr) := ⟨by have h := HQ.out; rw [hqe, List.take_length] at h; exact h⟩
        have HZ := Aside0.mk (genCode_sz E.spill places m b.f0 st.start)
        have HLX := Aside0.mk (useCode_len E.spill (rdTwo places b.f2) 14)
        clear HQ hqe
        have hbb9 := gpost_blk HQ9.out HBB.out hnB HNB.out
        obtain ⟨b0, b1, b2, b3, b4⟩ := blk5 hbb9
        have hlb := blk_lt hbb9
        have hwk : IntKind.i64.wrap (k + 1) = k + 1 := IntWalk.i64_in _ (by omega)
        clear hbb9
        have hlen : (genCode E.spill places m st.start b.f0).code.length + 12 ≤ 1000000 := by have h := HZ.out.1; simp only [GSt.start] at h ⊢; omega
        have hpat : (genCode E.spill places m st.start b.f0).patches.length + 2 ≤ 1000000 := by have h := HZ.out.2.2.2; rw [h]; exact hsz3
        obtain ⟨st2, HGC0⟩ : ∃ st2, genCode E.spill places m st.start b.f0 = st2 := ⟨_, rfl⟩
        rw [HGC0] at hlen hpat HQ9
        have HGC := Aside0.mk HGC0
        clear HGC0 HZ
        by_cases g3 : b.f1 = 3
        · have e3 : (b.f1 == 3) = true := beq_iff_eq.2 g3
          go_wp2_with (first
            | (go_at_call 29
               with_reducible refine (emit1_post HQ9.out ?_ _ 53 1 0 0 0 0 ?_ ?_).mono ?_
               (first | exact Below.refl _ _ | exact below_drew (Below.refl _ _) | exact below_alloc (Below.refl _ _) _ | exact below_drew (below_alloc (Below.refl _ _) _))
               (first | exact blk_new _ _ | exact blk_drew (blk_new _ _))
               (omega)
               rintro e w9 ⟨rfl, hq9⟩
               have hq := Aside0.mk hq9; clear hq9))
          refine bodyPost_ret (results_none rfl _ _ _) rfl ?_
          refine ⟨rfl, gpost_code (GPost.pre HBw.out HBW.out hq.out) ?_⟩
          rw [genBlk, if_pos g3, HGC.out]
        · have e3 : (b.f1 == 3) = false := beq_eq_false_iff_ne.2 g3
          by_cases g2 : b.f1 = 2
          · have e2 : (b.f1 == 2) = true := beq_iff_eq.2 g2
            obtain ⟨hx0, hx1⟩ := HPX.out g2
            go_wp2_with fail
            go_region_held3 (fun W => W.cell? ⟨w.heap.size, 2, none⟩ = some (.int .i64 b.f2) ∧ W.cell? ⟨w.heap.size, 3, none⟩ = some (.int .i64 b.f3))
              (first
                | go_keep
                | exact ⟨(blk_cell (gpost_blk hq.out HBB.out hnB HNB.out) 2).trans rfl, (blk_cell (gpost_blk hq.out HBB.out hnB HNB.out) 3).trans rfl⟩
                | exact ⟨(blk_cell (gpost_blk hq1.out HBB.out hnB HNB.out) 2).trans rfl, (blk_cell (gpost_blk hq1.out HBB.out hnB HNB.out) 3).trans rfl⟩)
              (first
                | (go_at_call 51
                   with_reducible refine (use_post HQ9.out ?_ HWW.out Ap cp places b.f2 14 HP.out HPV.out hx0 hx1 s0 s1 (hpl _) ?_).mono ?_
                   (first | exact Below.refl _ _ | exact below_drew (Below.refl _ _) | exact below_alloc (Below.refl _ _) _ | exact below_drew (below_alloc (Below.refl _ _) _))
                   (omega)
                   rintro e w3 ⟨rfl, hq3⟩
                   have hq1 := Aside0.mk hq3; clear hq3)
                | (go_at_call 50
                   with_reducible refine (jump_post hq1.out ?_ 23 (useReg (rdTwo places b.f2) 14) 0 0 0 b.f3 ?_ ?_).mono ?_
                   (first | exact Below.refl _ _ | exact below_drew (Below.refl _ _) | exact below_alloc (Below.refl _ _) _ | exact below_drew (below_alloc (Below.refl _ _) _))
                   (have h2 := HLX.out; (simp only [GSt.emit, GSt.refer, List.length_append, List.length_cons, List.length_nil]; omega))
                   (simp only [GSt.emit]; omega)
                   rintro e w9 ⟨rfl, hq9⟩
                   have hq := Aside0.mk hq9; clear hq9))
            all_goals (
              have hbb10 := gpost_blk hq.out HBB.out hnB HNB.out
              clear b0 b1 b2 b3 b4 hlb
              obtain ⟨b0, b1, b2, b3, b4⟩ := blk5 hbb10
              have hlb := blk_lt hbb10
              clear hbb10
              by_cases g4 : b.f4 = k + 1
              · have e4 : (b.f4 == k + 1) = true := beq_iff_eq.2 g4
                go_wp2_with fail
                go_end0
                refine ⟨rfl, gpost_code (GPost.pre HBw.out HBW.out hq.out) ?_⟩
                simp only [genBlk, if_neg g3, if_pos g2, if_pos g4, HGC.out, GSt.leap, GSt.emit]
              · have e4 : (b.f4 == k + 1) = false := beq_eq_false_iff_ne.2 g4
                go_wp2_with (first
                  | (go_at_call 50
                     with_reducible refine (jump_post hq.out ?_ 24 0 0 0 0 b.f4 ?_ ?_).mono ?_
                     (first | exact Below.refl _ _ | exact below_drew (Below.refl _ _) | exact below_alloc (Below.refl _ _) _ | exact below_drew (below_alloc (Below.refl _ _) _))
                     (have h2 := HLX.out; (simp only [GSt.emit, GSt.refer, List.length_append, List.length_cons, List.length_nil]; omega))
                     (simp only [GSt.emit, List.length_append, List.length_cons, List.length_nil]; omega)
                     rintro e w10 ⟨rfl, hq10⟩
                     have hq' := Aside0.mk hq10; clear hq10))
                go_end0
                refine ⟨rfl, gpost_code (GPost.pre HBw.out HBW.out hq'.out) ?_⟩
                simp only [genBlk, if_neg g3, if_pos g2, if_neg g4, HGC.out, GSt.leap, GSt.emit])
          · have e2 : (b.f1 == 2) = false := beq_eq_false_iff_ne.2 g2
            by_cases g4 : b.f3 = k + 1
            · have e4 : (b.f3 == k + 1) = true := beq_iff_eq.2 g4
              go_wp2_with fail
              go_end0
              refine ⟨rfl, gpost_code (GPost.pre HBw.out HBW.out HQ9.out) ?_⟩
              simp only [genBlk, if_neg g3, if_neg g2, if_pos g4, HGC.out, GSt.leap, GSt.emit]
            · have e4 : (b.f3 == k + 1) = false := beq_eq_false_iff_ne.2 g4
              go_wp2_with (first
                | (go_at_call 50
                   with_reducible refine (jump_post HQ9.out ?_ 24 0 0 0 0 b.f3 ?_ ?_).mono ?_
                   (first | exact Below.refl _ _ | exact below_drew (Below.refl _ _) | exact below_alloc (Below.refl _ _) _ | exact below_drew (below_alloc (Below.refl _ _) _))
                   (omega)
                   (omega)
                   rintro e w10 ⟨rfl, hq10⟩
                   have hq' := Aside0.mk hq10; clear hq10))
              go_end0
              refine ⟨rfl, gpost_code (GPost.pre HBw.out HBW.out hq'.out) ?_⟩
              simp only [genBlk, if_neg g3, if_neg g2, if_neg g4, HGC.out, GSt.leap, GSt.emit])
end Go.Proofs.Ytadaopfcgpfiiaa
