/- Lemmas: what the theorem of the claim's last text needs, joined by a program out of the seat's texts A1, B1, A2, A3, A4. -/
import Derived.Test.YtadaopfcgpfiiaaBaseX14
import Derived.Test.YtadaopfcgpfiiaaBaseX16
namespace Go.Proofs.Ytadaopfcgpfiiaa
open Go.RowKit Go.Proofs.YtadaopfcgpfiiaaW.PrintWords Go.Proofs.YtadaopfcgpfiiaaW.PrintLast Go.Proofs.YtadaopfcgpfiiaaW.PrintMore PCg
set_option linter.unusedVariables false
set_option linter.unusedSimpArgs false
set_option maxRecDepth 100000 in
set_option maxHeartbeats 1000000 in
theorem indexFuncArr_any (A : Option Addr) (c : Nat) (xs : List S44) (p : S44 → Bool) (f : FuncId) (cap : Array Value) (w : World)
    (hr : Kd.C k44 w A xs.length xs) (hcp : xs.length ≤ c) (hm : xs.length ≤ 9223372036854775806)
    (hcf : ∀ (args : Array Value) (W : World), (callFunc f args).run Try.prog W = .ok (.enter f args) W)
    (hf : ∀ (x : S44) (W : World), x ∈ xs → Below w.heap.size w W → Calls Try.prog f (#[.agg #[.string x.f0, .int .i64 x.f1]] ++ cap) W fun e W' => e = .returned (.bool (p x)) ∧ Below W.heap.size W W') :
    Calls Try.prog 78 #[.slice A xs.length c, .func (.func f) #[] cap] w fun e w' => e = .returned (.int .i64 (ixf p xs)) ∧ Below w.heap.size w w' := by
  have HR := Aside0.mk hr; clear hr
  have HF := Aside0.mk hf; clear hf
  have hu := Try.underlying44
  go_enter Try.func78, Try.ntmps78
  go_wp2
  go_loopw [8] (fun i wr => ∃ k : Int, i = .int .i64 k ∧ 0 ≤ k ∧ k ≤ xs.length ∧ Aside0 (∀ j, ∀ hj : j < xs.length, (j : Int) < k → p xs[j] = false) ∧ Aside0 (Below w.heap.size w wr)) (fun i wr => xs.length - (intOf i).toNat)
  case atStart => exact ⟨0, rfl, Int.le_refl _, by omega, ⟨fun j _ hj => by omega⟩, ⟨Below.refl _ _⟩⟩
  case round =>
    obtain ⟨k, rfl, hk0, hk, HN, HB⟩ := hrel
    by_cases hlt : k < xs.length
    · obtain ⟨ad, hA, h0, h1⟩ := at_T44 HR.out k hk0 hlt
      cases hA
      replace h0 := (HB.out.cell (World.block_lt_of_cell? w _ h0)).trans h0
      replace h1 := (HB.out.cell (World.block_lt_of_cell? w _ h1)).trans h1
      have p110 := eq_true hk0
      have q110 := eq_true hlt
      go_wp2_with fail
      refine (HF.out (rd_T44 xs k) _ (by simp only [rd_T44, List.getD_eq_getElem?_getD]; rw [List.getElem?_eq_getElem (by omega)]; simp) HB.out).mono ?_
      rintro e w1 ⟨rfl, hb1⟩
      have HB1 := Aside0.mk (below_step HB.out hb1); clear hb1 HB
      have HX := Aside0.mk (show rd_T44 xs k = xs[k.toNat]'(by omega) from by simp [rd_T44, show k.toNat < xs.length from by omega])
      by_cases hp : p (rd_T44 xs k) = true
      · have HP := Aside0.mk hp
        go_wp2
        go_ret
        have := ixf_some (k := k.toNat) (by omega) (fun j hj hlt => HN.out j hj (by omega)) (by rw [← HX.out]; exact HP.out)
        exact ⟨reti (by rw [this]; omega), HB1.out⟩
      · have hp0 : p (rd_T44 xs k) = false := by simpa using hp
        have HP := Aside0.mk hp0
        clear hp
        go_wp2
        go_roundw
        case rel =>
          refine ⟨k + 1, rfl, by omega, by omega, ⟨fun j hj hlt => ?_⟩, HB1⟩
          by_cases e : (j : Int) < k
          · exact HN.out j hj e
          · have : j = k.toNat := by clear HN HF HR; omega
            subst this
            rw [← HX.out]; exact HP.out
        case measure => simp [intOf]; omega
    · go_wp2
      go_ret
      exact ⟨by rw [ixf_none (fun j hj => HN.out j hj (by omega))]; rfl, HB.out⟩
set_option maxHeartbeats 400000 in
theorem containsFuncArr_any (A : Option Addr) (c : Nat) (xs : List S44) (p : S44 → Bool) (f : FuncId) (cap : Array Value) (w : World)
    (hr : Kd.C k44 w A xs.length xs) (hcp : xs.length ≤ c) (hm : xs.length ≤ 9223372036854775806)
    (hcf : ∀ (args : Array Value) (W : World), (callFunc f args).run Try.prog W = .ok (.enter f args) W)
    (hf : ∀ (x : S44) (W : World), x ∈ xs → Below w.heap.size w W → Calls Try.prog f (#[.agg #[.string x.f0, .int .i64 x.f1]] ++ cap) W fun e W' => e = .returned (.bool (p x)) ∧ Below W.heap.size W W') :
    Calls Try.prog 52 #[.slice A xs.length c, .func (.func f) #[] cap] w fun e w' => e = .returned (.bool (xs.any p)) ∧ Below w.heap.size w w' := by
  have HI := Aside0.mk (indexFuncArr_any A c xs p f cap w hr hcp hm hcf hf)
  clear hr hcf hf
  have hb := ixf_range p xs
  have HE := Aside0.mk (ixf_ge p xs)
  go_enter Try.func52, Try.ntmps52
  go_wp2_with fail
  refine HI.out.mono ?_
  rintro e w1 ⟨rfl, hb1⟩
  have HB1 := Aside0.mk hb1; clear hb1
  go_wp2
  go_ret
  exact ⟨retb HE.out, HB1.out⟩
set_option maxRecDepth 100000 in
set_option maxHeartbeats 1000000 in
theorem indexFuncIns_any (A : Option Addr) (c : Nat) (xs : List S51) (p : S51 → Bool) (f : FuncId) (cap : Array Value) (w : World)
    (hr : Kd.C k51 w A xs.length xs) (hcp : xs.length ≤ c) (hm : xs.length ≤ 9223372036854775806)
    (hcf : ∀ (args : Array Value) (W : World), (callFunc f args).run Try.prog W = .ok (.enter f args) W)
    (hf : ∀ (x : S51) (W : World), x ∈ xs → Below w.heap.size w W → Calls Try.prog f (#[.agg #[.int .u8 x.f0, .int .i64 x.f1, .int .i64 x.f2, .int .i64 x.f3, .int .i64 x.f4, .string x.f5]] ++ cap) W fun e W' => e = .returned (.bool (p x)) ∧ Below W.heap.size W W') :
    Calls Try.prog 55 #[.slice A xs.length c, .func (.func f) #[] cap] w fun e w' => e = .returned (.int .i64 (ixf p xs)) ∧ Below w.heap.size w w' := by
  have HR := Aside0.mk hr; clear hr
  have HF := Aside0.mk hf; clear hf
  have hu := Try.underlying51
  go_enter Try.func55, Try.ntmps55
  go_wp2
  go_loopw [8] (fun i wr => ∃ k : Int, i = .int .i64 k ∧ 0 ≤ k ∧ k ≤ xs.length ∧ Aside0 (∀ j, ∀ hj : j < xs.length, (j : Int) < k → p xs[j] = false) ∧ Aside0 (Below w.heap.size w wr)) (fun i wr => xs.length - (intOf i).toNat)
  case atStart => exact ⟨0, rfl, Int.le_refl _, by omega, ⟨fun j _ hj => by omega⟩, ⟨Below.refl _ _⟩⟩
  case round =>
    obtain ⟨k, rfl, hk0, hk, HN, HB⟩ := hrel
    by_cases hlt : k < xs.length
    · obtain ⟨ad, hA, h0, h1, h2, h3, h4, h5⟩ := at_T51 HR.out k hk0 hlt
      cases hA
      replace h0 := (HB.out.cell (World.block_lt_of_cell? w _ h0)).trans h0
      replace h1 := (HB.out.cell (World.block_lt_of_cell? w _ h1)).trans h1
      replace h2 := (HB.out.cell (World.block_lt_of_cell? w _ h2)).trans h2
      replace h3 := (HB.out.cell (World.block_lt_of_cell? w _ h3)).trans h3
      replace h4 := (HB.out.cell (World.block_lt_of_cell? w _ h4)).trans h4
      replace h5 := (HB.out.cell (World.block_lt_of_cell? w _ h5)).trans h5
      have p110 := eq_true hk0
      have q110 := eq_true hlt
      go_wp2_with fail
      refine (HF.out (rd_T51 xs k) _ (by simp only [rd_T51, List.getD_eq_getElem?_getD]; rw [List.getElem?_eq_getElem (by omega)]; simp) HB.out).mono ?_
      rintro e w1 ⟨rfl, hb1⟩
      have HB1 := Aside0.mk (below_step HB.out hb1); clear hb1 HB
      have HX := Aside0.mk (show rd_T51 xs k = xs[k.toNat]'(by omega) from by simp [rd_T51, show k.toNat < xs.length from by omega])
      by_cases hp : p (rd_T51 xs k) = true
      · have HP := Aside0.mk hp
        go_wp2
        go_ret
        have := ixf_some (k := k.toNat) (by omega) (fun j hj hlt => HN.out j hj (by omega)) (by rw [← HX.out]; exact HP.out)
        exact ⟨reti (by rw [this]; omega), HB1.out⟩
      · have hp0 : p (rd_T51 xs k) = false := by simpa using hp
        have HP := Aside0.mk hp0
        clear hp
        go_wp2
        go_roundw
        case rel =>
          refine ⟨k + 1, rfl, by omega, by omega, ⟨fun j hj hlt => ?_⟩, HB1⟩
          by_cases e : (j : Int) < k
          · exact HN.out j hj e
          · have : j = k.toNat := by clear HN HF HR; omega
            subst this
            rw [← HX.out]; exact HP.out
        case measure => simp [intOf]; omega
    · go_wp2
      go_ret
      exact ⟨by rw [ixf_none (fun j hj => HN.out j hj (by omega))]; rfl, HB.out⟩
set_option maxHeartbeats 400000 in
theorem containsFuncIns_any (A : Option Addr) (c : Nat) (xs : List S51) (p : S51 → Bool) (f : FuncId) (cap : Array Value) (w : World)
    (hr : Kd.C k51 w A xs.length xs) (hcp : xs.length ≤ c) (hm : xs.length ≤ 9223372036854775806)
    (hcf : ∀ (args : Array Value) (W : World), (callFunc f args).run Try.prog W = .ok (.enter f args) W)
    (hf : ∀ (x : S51) (W : World), x ∈ xs → Below w.heap.size w W → Calls Try.prog f (#[.agg #[.int .u8 x.f0, .int .i64 x.f1, .int .i64 x.f2, .int .i64 x.f3, .int .i64 x.f4, .string x.f5]] ++ cap) W fun e W' => e = .returned (.bool (p x)) ∧ Below W.heap.size W W') :
    Calls Try.prog 33 #[.slice A xs.length c, .func (.func f) #[] cap] w fun e w' => e = .returned (.bool (xs.any p)) ∧ Below w.heap.size w w' := by
  have HI := Aside0.mk (indexFuncIns_any A c xs p f cap w hr hcp hm hcf hf)
  clear hr hcf hf
  have hb := ixf_range p xs
  have HE := Aside0.mk (ixf_ge p xs)
  go_enter Try.func33, Try.ntmps33
  go_wp2_with fail
  refine HI.out.mono ?_
  rintro e w1 ⟨rfl, hb1⟩
  have HB1 := Aside0.mk hb1; clear hb1
  go_wp2
  go_ret
  exact ⟨retb HE.out, HB1.out⟩
set_option maxRecDepth 100000 in
set_option maxHeartbeats 1000000 in
theorem indexFuncInt_any (A : Option Addr) (c : Nat) (xs : List Int) (p : Int → Bool) (f : FuncId) (cap : Array Value) (w : World)
    (hr : Kd.C (Kd.int .i64) w A xs.length xs) (hcp : xs.length ≤ c) (hm : xs.length ≤ 9223372036854775806)
    (hcf : ∀ (args : Array Value) (W : World), (callFunc f args).run Try.prog W = .ok (.enter f args) W)
    (hf : ∀ (x : Int) (W : World), x ∈ xs → Below w.heap.size w W → Calls Try.prog f (#[.int .i64 x] ++ cap) W fun e W' => e = .returned (.bool (p x)) ∧ Below W.heap.size W W') :
    Calls Try.prog 117 #[.slice A xs.length c, .func (.func f) #[] cap] w fun e w' => e = .returned (.int .i64 (ixf p xs)) ∧ Below w.heap.size w w' := by
  have HR := Aside0.mk hr; clear hr
  have HF := Aside0.mk hf; clear hf

  go_enter Try.func117, Try.ntmps117
  go_wp2
  go_loopw [8] (fun i wr => ∃ k : Int, i = .int .i64 k ∧ 0 ≤ k ∧ k ≤ xs.length ∧ Aside0 (∀ j, ∀ hj : j < xs.length, (j : Int) < k → p xs[j] = false) ∧ Aside0 (Below w.heap.size w wr)) (fun i wr => xs.length - (intOf i).toNat)
  case atStart => exact ⟨0, rfl, Int.le_refl _, by omega, ⟨fun j _ hj => by omega⟩, ⟨Below.refl _ _⟩⟩
  case round =>
    obtain ⟨k, rfl, hk0, hk, HN, HB⟩ := hrel
    by_cases hlt : k < xs.length
    · obtain ⟨ad, hA, h0⟩ := Kd.at_int HR.out k hk0 hlt
      cases hA
      replace h0 := (HB.out.cell (World.block_lt_of_cell? w _ h0)).trans h0
      have p110 := eq_true hk0
      have q110 := eq_true hlt
      go_wp2_with fail
      refine (HF.out (rd xs k) _ (by simp only [rd, List.getD_eq_getElem?_getD]; rw [List.getElem?_eq_getElem (by omega)]; simp) HB.out).mono ?_
      rintro e w1 ⟨rfl, hb1⟩
      have HB1 := Aside0.mk (below_step HB.out hb1); clear hb1 HB
      have HX := Aside0.mk (show rd xs k = xs[k.toNat]'(by omega) from by simp [rd, show k.toNat < xs.length from by omega])
      by_cases hp : p (rd xs k) = true
      · have HP := Aside0.mk hp
        go_wp2
        go_ret
        have := ixf_some (k := k.toNat) (by omega) (fun j hj hlt => HN.out j hj (by omega)) (by rw [← HX.out]; exact HP.out)
        exact ⟨reti (by rw [this]; omega), HB1.out⟩
      · have hp0 : p (rd xs k) = false := by simpa using hp
        have HP := Aside0.mk hp0
        clear hp
        go_wp2
        go_roundw
        case rel =>
          refine ⟨k + 1, rfl, by omega, by omega, ⟨fun j hj hlt => ?_⟩, HB1⟩
          by_cases e : (j : Int) < k
          · exact HN.out j hj e
          · have : j = k.toNat := by clear HN HF HR; omega
            subst this
            rw [← HX.out]; exact HP.out
        case measure => simp [intOf]; omega
    · go_wp2
      go_ret
      exact ⟨by rw [ixf_none (fun j hj => HN.out j hj (by omega))]; rfl, HB.out⟩
set_option maxHeartbeats 400000 in
theorem containsFuncInt_any (A : Option Addr) (c : Nat) (xs : List Int) (p : Int → Bool) (f : FuncId) (cap : Array Value) (w : World)
    (hr : Kd.C (Kd.int .i64) w A xs.length xs) (hcp : xs.length ≤ c) (hm : xs.length ≤ 9223372036854775806)
    (hcf : ∀ (args : Array Value) (W : World), (callFunc f args).run Try.prog W = .ok (.enter f args) W)
    (hf : ∀ (x : Int) (W : World), x ∈ xs → Below w.heap.size w W → Calls Try.prog f (#[.int .i64 x] ++ cap) W fun e W' => e = .returned (.bool (p x)) ∧ Below W.heap.size W W') :
    Calls Try.prog 105 #[.slice A xs.length c, .func (.func f) #[] cap] w fun e w' => e = .returned (.bool (xs.any p)) ∧ Below w.heap.size w w' := by
  have HI := Aside0.mk (indexFuncInt_any A c xs p f cap w hr hcp hm hcf hf)
  clear hr hcf hf
  have hb := ixf_range p xs
  have HE := Aside0.mk (ixf_ge p xs)
  go_enter Try.func105, Try.ntmps105
  go_wp2_with fail
  refine HI.out.mono ?_
  rintro e w1 ⟨rfl, hb1⟩
  have HB1 := Aside0.mk hb1; clear hb1
  go_wp2
  go_ret
  exact ⟨retb HE.out, HB1.out⟩
end Go.Proofs.Ytadaopfcgpfiiaa
namespace Go.Proofs.Ytadaopfcgpfiiaa
open Go.RowKit Go.Proofs.YtadaopfcgpfiiaaW.PrintWords Go.Proofs.YtadaopfcgpfiiaaW.PrintLast Go.Proofs.YtadaopfcgpfiiaaW.PrintMore PCg
set_option linter.unusedVariables false
set_option linter.unusedSimpArgs false
set_option maxRecDepth 100000 in
set_option maxHeartbeats 1000000 in
theorem cloneInt_any (A : Option Addr) (c : Nat) (xs : List Int) (w : World) (hr : Kd.C (Kd.int .i64) w A xs.length xs) (hcp : xs.length ≤ c) (hm : xs.length * 8 ≤ 140737488355328) :
    Calls Try.prog 104 #[.slice A xs.length c] w fun e w' => ∃ v, e = .returned v ∧ Kd.R (Kd.int .i64) 3 w' w.heap.size (fun _ => True) v xs ∧ Below w.heap.size w w' := by
  have heq := fun W : World => Lib.run_eql_slice_nil (P := Try.prog) W 37 3 A xs.length c 0 0 Try.underlying37
  rcases A with _ | ad
  · obtain ⟨hl, _, hn⟩ := hr
    have h0 : xs = [] := by
      rcases Nat.eq_zero_or_pos xs.length with h0 | h0
      · exact List.eq_nil_of_length_eq_zero h0
      · obtain ⟨ad, h, _⟩ := hn h0
        cases h
    subst h0
    clear hn hl heq
    have heq := fun W : World => Lib.run_eql_slice_nil (P := Try.prog) W 37 3 none 0 c 0 0 Try.underlying37
    go_enter Try.func104, Try.ntmps104
    go_wp2
    go_ret
    exact ⟨_, rfl, Kd.R_nil _ _ _ _ _, Below.refl _ _⟩
  · have HR := Aside0.mk hr
    clear hr
    have HB0 : Aside0 (Below w.heap.size w (w.alloc (.cells #[] 3))) := ⟨(Below.refl _ _).alloc (Nat.le_refl _) _⟩
    have HO : Aside0 (Kd.R (Kd.int .i64) 3 (w.alloc (.cells #[] 3)) w.heap.size (fun _ => True) (.slice (some ⟨w.heap.size, 0, none⟩) 0 0) []) :=
      ⟨Kd.R_of_own (World.ownsRow_made w #[] 0 (Nat.le_refl _) (by simp) (by simp)) (fun _ _ => trivial)⟩
    go_enter Try.func104, Try.ntmps104
    go_wp2_with (at_builtin; refine Kd.R_append_row (Value.int .i64) 0 w.heap.size rfl (.tmp 5) (.tmp 6) 37 3 (.int .i64 0) 8 rfl Try.underlying37 info3 rfl (by decide) _ _ _ _ _ _ (fun _ => True) rfl rfl (fun _ _ => trivial) HO.out (Kd.C_below HR.out HB0.out) HB0.out (by simp) (by simpa using hm) ?_; intro v1 w1 hR1 hB1 hg1 hat1; have HR1 := Aside0.mk hR1; have HB1 := Aside0.mk hB1; clear hR1 hB1 hg1 hat1)
    go_ret
    exact ⟨_, rfl, HR1.out, HB1.out⟩
set_option maxRecDepth 100000 in
set_option maxHeartbeats 1000000 in
theorem cloneSet_any (A : Option Addr) (c : Nat) (xs : List Int) (w : World) (hr : Kd.C (Kd.int .u64) w A xs.length xs) (hcp : xs.length ≤ c) (hm : xs.length * 8 ≤ 140737488355328) :
    Calls Try.prog 109 #[.slice A xs.length c] w fun e w' => ∃ v, e = .returned v ∧ Kd.R (Kd.int .u64) 191 w' w.heap.size (fun _ => True) v xs ∧ Below w.heap.size w w' := by
  have heq := fun W : World => Lib.run_eql_slice_nil (P := Try.prog) W 159 191 A xs.length c 0 0 Try.underlying159
  rcases A with _ | ad
  · obtain ⟨hl, _, hn⟩ := hr
    have h0 : xs = [] := by
      rcases Nat.eq_zero_or_pos xs.length with h0 | h0
      · exact List.eq_nil_of_length_eq_zero h0
      · obtain ⟨ad, h, _⟩ := hn h0
        cases h
    subst h0
    clear hn hl heq
    have heq := fun W : World => Lib.run_eql_slice_nil (P := Try.prog) W 159 191 none 0 c 0 0 Try.underlying159
    go_enter Try.func109, Try.ntmps109
    go_wp2
    go_ret
    exact ⟨_, rfl, Kd.R_nil _ _ _ _ _, Below.refl _ _⟩
  · have HR := Aside0.mk hr
    clear hr
    have HB0 : Aside0 (Below w.heap.size w (w.alloc (.cells #[] 191))) := ⟨(Below.refl _ _).alloc (Nat.le_refl _) _⟩
    have HO : Aside0 (Kd.R (Kd.int .u64) 191 (w.alloc (.cells #[] 191)) w.heap.size (fun _ => True) (.slice (some ⟨w.heap.size, 0, none⟩) 0 0) []) :=
      ⟨Kd.R_of_own (World.ownsRow_made w #[] 0 (Nat.le_refl _) (by simp) (by simp)) (fun _ _ => trivial)⟩
    go_enter Try.func109, Try.ntmps109
    go_wp2_with (at_builtin; refine Kd.R_append_row (Value.int .u64) 0 w.heap.size rfl (.tmp 5) (.tmp 6) 159 191 (.int .u64 0) 8 rfl Try.underlying159 info191 rfl (by decide) _ _ _ _ _ _ (fun _ => True) rfl rfl (fun _ _ => trivial) HO.out (Kd.C_below HR.out HB0.out) HB0.out (by simp) (by simpa using hm) ?_; intro v1 w1 hR1 hB1 hg1 hat1; have HR1 := Aside0.mk hR1; have HB1 := Aside0.mk hB1; clear hR1 hB1 hg1 hat1)
    go_ret
    exact ⟨_, rfl, HR1.out, HB1.out⟩
end Go.Proofs.Ytadaopfcgpfiiaa
namespace Go.Proofs.Ytadaopfcgpfiiaa
open Go.RowKit Go.Proofs.YtadaopfcgpfiiaaW.PrintWords Go.Proofs.YtadaopfcgpfiiaaW.PrintLast Go.Proofs.YtadaopfcgpfiiaaW.PrintMore PCg
set_option linter.unusedVariables false
set_option linter.unusedSimpArgs false
/-- an operand that is used is a register, one that is not used is 0 -/
def regOk (u : Bool) (r n : Int) : Bool := if u then decide (0 ≤ r) && decide (r < n) else r == 0
set_option maxHeartbeats 400000 in
theorem register_any (u : Bool) (r n : Int) (w : World) :
    Calls Try.prog 57 #[.bool u, .int .i64 r, .int .i64 n] w fun e w' => e = .returned (.bool (regOk u r n)) ∧ w = w' := by
  cases u
  · go_enter Try.func57, Try.ntmps57
    go_wp2
    go_ret
    exact ⟨retb (by simp [regOk]), rfl⟩
  · go_enter Try.func57, Try.ntmps57
    go_wp2
    all_goals go_ret
    all_goals (refine ⟨retb ?_, rfl⟩)
    · have : 0 ≤ r := by assumption
      simp [regOk, this]
    · have : r < 0 := by assumption
      simp [regOk]; omega
/-- what an operation's operands are -/
structure Shp where
  d : Bool
  x : Bool
  y : Bool
  lo : Int
  hi : Int
  sym : Int
  ok : Bool
def shp (op : Int) : Shp :=
  if op = 1 then ⟨true, false, false, -2147483648, 2147483647, 0, true⟩ else if op = 2 then ⟨true, true, false, 0, 0, 0, true⟩ else
  if op = 3 then ⟨true, true, true, 6, 23, 0, true⟩ else if op = 4 then ⟨true, true, false, 0, 0, 1, true⟩ else
  if op = 5 then ⟨false, true, true, 0, 0, 1, true⟩ else if op = 6 then ⟨true, true, false, 0, 0, 2, true⟩ else
  if op = 7 then ⟨false, true, true, 0, 0, 2, true⟩ else if op = 8 then ⟨false, true, false, 1, 131071, 0, true⟩ else
  if op = 9 then ⟨true, false, false, 0, 7, 0, true⟩ else if op = 10 then ⟨false, true, false, 0, 7, 0, true⟩ else
  if op = 11 ∨ op = 12 then ⟨false, false, false, 0, 0, 2, true⟩ else if op = 13 ∨ op = 14 then ⟨false, false, false, 0, 3, 0, true⟩ else
  if op = 15 then ⟨true, false, false, 0, 3, 0, true⟩ else if op = 16 then ⟨false, false, false, 1, 131071, 0, true⟩ else ⟨false, false, false, 0, 0, 0, false⟩
theorem shapeOf_f (op : Int) : ir_shapeOf.f 3 op = some ((shp op).d, (shp op).x, (shp op).y, (shp op).lo, (shp op).hi, (shp op).sym, (shp op).ok) := by
  by_cases h : 1 ≤ op ∧ op ≤ 16
  · have h16 : op = 1 ∨ op = 2 ∨ op = 3 ∨ op = 4 ∨ op = 5 ∨ op = 6 ∨ op = 7 ∨ op = 8 ∨ op = 9 ∨ op = 10 ∨ op = 11 ∨ op = 12 ∨ op = 13 ∨ op = 14 ∨ op = 15 ∨ op = 16 := by omega
    rcases h16 with rfl | rfl | rfl | rfl | rfl | rfl | rfl | rfl | rfl | rfl | rfl | rfl | rfl | rfl | rfl | rfl <;> simp [ir_shapeOf.f, ir_shapeOf.j0, ir_shapeOf.j1, shp]
  · simp [ir_shapeOf.f, ir_shapeOf.j0, ir_shapeOf.j1, shp, show op ≠ 1 from by omega, show op ≠ 2 from by omega, show op ≠ 3 from by omega, show op ≠ 4 from by omega, show op ≠ 5 from by omega, show op ≠ 6 from by omega, show op ≠ 7 from by omega, show op ≠ 8 from by omega, show op ≠ 9 from by omega, show op ≠ 10 from by omega, show op ≠ 11 from by omega, show op ≠ 12 from by omega, show op ≠ 13 from by omega, show op ≠ 14 from by omega, show op ≠ 15 from by omega, show op ≠ 16 from by omega]
theorem shapeOf_any (op : Int) (w : World) :
    Calls Try.prog 56 #[.int .u8 op] w fun e w' => e = .returned (.tuple #[.agg #[.bool (shp op).d, .bool (shp op).x, .bool (shp op).y, .int .i64 (shp op).lo, .int .i64 (shp op).hi, .int .i64 (shp op).sym], .bool (shp op).ok]) ∧ Below w.heap.size w w' :=
  ir_shapeOf.calls 3 op _ _ _ _ _ _ _ w (shapeOf_f op)
/-- a list of arrays has one with a name -/
def hasName (l : List S44) (nm : ByteArray) : Bool := l.any fun a => a.f0.toList == nm.toList
set_option maxHeartbeats 400000 in
theorem has1_any (n nm : ByteArray) (l : Int) (b : Nat) (w : World) (hc : w.cell? ⟨b, 0, none⟩ = some (.string nm)) :
    Calls Try.prog 53 #[.agg #[.string n, .int .i64 l], .pointer (some ⟨b, 0, none⟩)] w fun e w' => e = .returned (.bool (n.toList == nm.toList)) ∧ Below w.heap.size w w' := by
  have hlt := World.block_lt_of_cell? w _ hc
  go_enter Try.func53, Try.ntmps53
  go_wp2
  go_ret
  exact ⟨rfl, (Below.refl _ _).alloc (Nat.le_refl _) _⟩
theorem callFunc_irHas1 (args : Array Value) (W : World) : (callFunc 53 args).run Try.prog W = .ok (.enter 53 args) W := by kernel_rfl
set_option maxHeartbeats 400000 in
theorem has_any (A : Option Addr) (c : Nat) (xs : List S44) (nm : ByteArray) (w : World) (hr : Kd.C k44 w A xs.length xs) (hcp : xs.length ≤ c) (hm : xs.length ≤ 9223372036854775806) :
    Calls Try.prog 31 #[.slice A xs.length c, .string nm] w fun e w' => e = .returned (.bool (hasName xs nm)) ∧ Below w.heap.size w w' := by
  have hb0 : Below w.heap.size w (w.alloc (.cells #[.string nm] 9)) := (Below.refl _ _).alloc (Nat.le_refl _) _
  have HC := Aside0.mk (containsFuncArr_any A c xs (fun a => a.f0.toList == nm.toList) 53 #[.pointer (some ⟨w.heap.size, 0, none⟩)] (w.alloc (.cells #[.string nm] 9))
    (Kd.C_below hr hb0) hcp hm callFunc_irHas1 (fun x W _ hW => has1_any x.f0 nm x.f1 w.heap.size W ((hW.cell (p := ⟨w.heap.size, 0, none⟩) (by simp)).trans (by simp))))
  have HB0 := Aside0.mk hb0
  clear hr hb0
  go_enter Try.func31, Try.ntmps31
  go_wp2_with fail
  refine HC.out.mono ?_
  rintro e w1 ⟨rfl, hb1⟩
  have HB1 := Aside0.mk (below_step HB0.out hb1); clear hb1
  go_wp2
  go_ret
  exact ⟨rfl, HB1.out⟩
theorem has_len (A : Option Addr) (c n : Nat) (xs : List S44) (nm : ByteArray) (w : World) (hn : xs.length = n) (hr : Kd.C k44 w A xs.length xs) (hcp : xs.length ≤ c) (hm : xs.length ≤ 9223372036854775806) :
    Calls Try.prog 31 #[.slice A n c, .string nm] w fun e w' => e = .returned (.bool (hasName xs nm)) ∧ Below w.heap.size w w' := by
  subst hn; exact has_any A c xs nm w hr hcp hm
end Go.Proofs.Ytadaopfcgpfiiaa
namespace Go.Proofs.Ytadaopfcgpfiiaa
open Go.RowKit Go.Proofs.YtadaopfcgpfiiaaW.PrintWords Go.Proofs.YtadaopfcgpfiiaaW.PrintLast Go.Proofs.YtadaopfcgpfiiaaW.PrintMore PCg
set_option linter.unusedVariables false
set_option linter.unusedSimpArgs false
def symOk (arrs shared : List S44) (sym : Int) (nm : ByteArray) : Bool := if sym = 1 then hasName arrs nm else if sym = 2 then hasName shared nm else nm.toList.isEmpty
def xOk (regs : Int) (i : S51) : Bool := if i.f0 = 16 then decide (0 ≤ i.f2) && decide (i.f2 < 4) else regOk (shp i.f0).x i.f2 regs
/-- an instruction is valid in a function with so many registers, these arrays and these shared objects -/
def insOk (regs : Int) (arrs shared : List S44) (i : S51) : Bool :=
  (shp i.f0).ok && regOk (shp i.f0).d i.f1 regs && regOk (shp i.f0).y i.f3 regs && decide ((shp i.f0).lo ≤ i.f4) && decide (i.f4 ≤ (shp i.f0).hi) && xOk regs i && symOk arrs shared (shp i.f0).sym i.f5
theorem insOk_eq (regs : Int) (arrs shared : List S44) (i : S51) (s : Shp) (h : shp i.f0 = s) : insOk regs arrs shared i =
    (s.ok && regOk s.d i.f1 regs && regOk s.y i.f3 regs && decide (s.lo ≤ i.f4) && decide (i.f4 ≤ s.hi) && (if i.f0 = 16 then decide (0 ≤ i.f2) && decide (i.f2 < 4) else regOk s.x i.f2 regs) && symOk arrs shared s.sym i.f5) := by
  subst h; rfl
set_option maxRecDepth 100000 in
set_option maxHeartbeats 1000000 in
theorem valid_any (nm : ByteArray) (regs : Int) (A : Option Addr) (c : Nat) (arrs : List S44) (Bv : Value) (A2 : Option Addr) (c2 : Nat) (shared : List S44) (i : S51) (w : World)
    (hr : Kd.C k44 w A arrs.length arrs) (hcp : arrs.length ≤ c) (hm : arrs.length ≤ 9223372036854775806)
    (hr2 : Kd.C k44 w A2 shared.length shared) (hcp2 : shared.length ≤ c2) (hm2 : shared.length ≤ 9223372036854775806) (hBv : ∃ A3 n3 c3, Bv = .slice A3 n3 c3) :
    Calls Try.prog 35 #[.agg #[.string nm, .int .i64 regs, .slice A arrs.length c, Bv], .slice A2 shared.length c2, .agg #[.int .u8 i.f0, .int .i64 i.f1, .int .i64 i.f2, .int .i64 i.f3, .int .i64 i.f4, .string i.f5]] w
      fun e w' => e = .returned (.bool (insOk regs arrs shared i)) ∧ Below w.heap.size w w' := by
  obtain ⟨A3, n3, c3, rfl⟩ := hBv
  have HR := Aside0.mk hr; clear hr
  have HR2 := Aside0.mk hr2; clear hr2
  have hu := Try.underlying44
  have hu2 := Try.underlying51
  have hu3 := Try.underlying25
  have hu4 := Try.underlying141
  go_enter Try.func35, Try.ntmps35
  go_wp2_with fail
  refine (shapeOf_any _ _).mono ?_
  rintro e w1 ⟨rfl, hb1⟩
  have hz := hb1.size
  simp only [World.size_alloc] at hz
  have hF : w1.heap[w.heap.size]? = some (.cells #[.string nm, .int .i64 regs, .slice A arrs.length c, .slice A3 n3 c3] 25 (0, 0)) := (hb1.block _ (by simp; omega)).trans ((Below.heap_alloc _ _ _ (by simp)).trans (heap_alloc_new w _))
  have hI : w1.heap[w.heap.size + 1]? = some (.cells #[.int .u8 i.f0, .int .i64 i.f1, .int .i64 i.f2, .int .i64 i.f3, .int .i64 i.f4, .string i.f5] 51 (0, 0)) := (hb1.block _ (by simp)).trans (heap_alloc_at _ _ _ (by simp))
  have hz0 : w.heap.size < w1.heap.size := by omega
  have hz1 : w.heap.size + 1 < w1.heap.size := by omega
  obtain ⟨f0, f1, f2, f3⟩ := blk4 hF
  obtain ⟨i0, i1, i2, i3, i4, i5⟩ := blk6 hI
  clear hF hI
  have HB1 : Aside0 (Below w.heap.size w w1) := ⟨Below.trans (((Below.refl _ _).alloc (Nat.le_refl _) _).alloc (by simp) _) (hb1.mono (by simp; omega))⟩
  clear hb1
  have HS := Aside0.mk (insOk_eq regs arrs shared i _ rfl)
  generalize shp i.f0 = s at *
  obtain ⟨sd, sx, sy, slo, shi, ssym, sok⟩ := s
  dsimp only at *
  go_wp2_with (go_at_call 57; refine (register_any _ _ _ _).mono ?_; rintro e w' ⟨rfl, rfl⟩)
  all_goals first
  | (go_ret
     refine ⟨retb ?_, HB1.out.alloc HB1.out.size _⟩
     rw [HS.out]
     simp_all [symOk]
     done)
  | (go_ret
     refine ⟨retb ?_, HB1.out.alloc HB1.out.size _⟩
     rw [HS.out]
     simp [*, symOk]
     omega)
  | (go_ret
     refine ⟨retb ?_, HB1.out.alloc HB1.out.size _⟩
     rw [HS.out]
     simp_all [symOk]
     omega)
  | (have HC := Aside0.mk (HB1.out.alloc HB1.out.size (.cells #[.bool sd, .bool sx, .bool sy, .int .i64 slo, .int .i64 shi, .int .i64 ssym] 141))
     first
     | (with_reducible refine (has_any A c arrs _ _ (Kd.C_below HR.out HC.out) hcp hm).mono ?_)
     | (with_reducible refine (has_any A2 c2 shared _ _ (Kd.C_below HR2.out HC.out) hcp2 hm2).mono ?_)
     rintro e w2 ⟨rfl, hb2⟩
     have HB2 := Aside0.mk (below_step HC.out hb2); clear hb2
     go_wp2
     go_ret
     refine ⟨retb ?_, HB2.out⟩
     rw [HS.out]
     simp_all [symOk]
     done)
theorem callFunc_irValid1 (args : Array Value) (W : World) : (callFunc 34 args).run Try.prog W = .ok (.enter 34 args) W := by kernel_rfl
set_option maxRecDepth 100000 in
set_option maxHeartbeats 1000000 in
theorem valid1_any (b b2 : Nat) (nm : ByteArray) (regs : Int) (A : Option Addr) (c : Nat) (arrs : List S44) (A3 : Option Addr) (n3 c3 : Nat) (A2 : Option Addr) (c2 : Nat) (shared : List S44) (i : S51) (w : World)
    (hF : w.heap[b]? = some (.cells #[.string nm, .int .i64 regs, .slice A arrs.length c, .slice A3 n3 c3] 25 (0, 0)))
    (hS : w.heap[b2]? = some (.cells #[.slice A2 shared.length c2] 22 (0, 0)))
    (hr : Kd.C k44 w A arrs.length arrs) (hcp : arrs.length ≤ c) (hm : arrs.length ≤ 9223372036854775806)
    (hr2 : Kd.C k44 w A2 shared.length shared) (hcp2 : shared.length ≤ c2) (hm2 : shared.length ≤ 9223372036854775806) :
    Calls Try.prog 34 #[.agg #[.int .u8 i.f0, .int .i64 i.f1, .int .i64 i.f2, .int .i64 i.f3, .int .i64 i.f4, .string i.f5], .pointer (some ⟨b, 0, none⟩), .pointer (some ⟨b2, 0, none⟩)] w
      fun e w' => e = .returned (.bool (!insOk regs arrs shared i)) ∧ Below w.heap.size w w' := by
  have hlt := blk_lt hF
  have hlt2 := blk_lt hS
  obtain ⟨f0, f1, f2, f3⟩ := blk4 hF
  have g0 := blk1 hS
  clear hF hS
  have hb0 : Below w.heap.size w (w.alloc (.cells #[.int .u8 i.f0, .int .i64 i.f1, .int .i64 i.f2, .int .i64 i.f3, .int .i64 i.f4, .string i.f5] 51)) := (Below.refl _ _).alloc (Nat.le_refl _) _
  have HC := Aside0.mk (valid_any nm regs A c arrs (.slice A3 n3 c3) A2 c2 shared i _ (Kd.C_below hr hb0) hcp hm (Kd.C_below hr2 hb0) hcp2 hm2 ⟨_, _, _, rfl⟩)
  have HB0 := Aside0.mk hb0
  clear hb0 hr hr2
  have hu2 := Try.underlying51
  have hu3 := Try.underlying25
  go_enter Try.func34, Try.ntmps34
  go_wp2_with fail
  refine HC.out.mono ?_
  rintro e w1 ⟨rfl, hb1⟩
  have HB1 := Aside0.mk (below_step HB0.out hb1); clear hb1
  go_wp2
  go_ret
  exact ⟨rfl, HB1.out⟩
end Go.Proofs.Ytadaopfcgpfiiaa
namespace Go.Proofs.Ytadaopfcgpfiiaa
open Go.RowKit Go.Proofs.YtadaopfcgpfiiaaW.PrintWords Go.Proofs.YtadaopfcgpfiiaaW.PrintLast Go.Proofs.YtadaopfcgpfiiaaW.PrintMore PCg
set_option linter.unusedVariables false
set_option linter.unusedSimpArgs false
def tgtOk (nb : Int) (t : Int) : Bool := decide (0 ≤ t) && decide (t < nb)
def endOk (regs nb : Int) (kind x tt els : Int) : Bool :=
  if kind = 1 then tgtOk nb tt && x == 0 && els == 0 else
  if kind = 2 then tgtOk nb tt && tgtOk nb els && decide (0 ≤ x) && decide (x < regs) else kind == 3 && x == 0 && tt == 0 && els == 0
set_option maxRecDepth 100000 in
set_option maxHeartbeats 400000 in
theorem end1_any (b : Nat) (v0 v1 v2 : Value) (A3 : Option Addr) (n3 c3 : Nat) (t : Int) (w : World)
    (f3 : w.cell? ⟨b, 3, none⟩ = some (.slice A3 n3 c3)) :
    Calls Try.prog 54 #[.int .i64 t, .pointer (some ⟨b, 0, none⟩)] w fun e w' => e = .returned (.bool (tgtOk n3 t)) ∧ w = w' := by
  have hlt := World.block_lt_of_cell? w _ f3
  go_enter Try.func54, Try.ntmps54
  go_wp2
  all_goals go_ret
  all_goals (refine ⟨retb ?_, rfl⟩)
  · have : 0 ≤ t := by assumption
    simp [tgtOk, this]
  · have : t < 0 := by assumption
    simp [tgtOk]; omega
set_option maxRecDepth 100000 in
set_option maxHeartbeats 1000000 in
theorem end_any (nm : ByteArray) (regs : Int) (A A3 : Option Addr) (n c n3 c3 : Nat) (A4 : Option Addr) (n4 c4 : Nat) (kind x tt els : Int) (w : World) :
    Calls Try.prog 32 #[.agg #[.string nm, .int .i64 regs, .slice A n c, .slice A3 n3 c3], .agg #[.slice A4 n4 c4, .int .u8 kind, .int .i64 x, .int .i64 tt, .int .i64 els]] w
      fun e w' => e = .returned (.bool (endOk regs n3 kind x tt els)) ∧ Below w.heap.size w w' := by
  have hu2 := Try.underlying49
  have hu3 := Try.underlying25
  have HB : Aside0 (Below w.heap.size w ((w.alloc (.cells #[.string nm, .int .i64 regs, .slice A n c, .slice A3 n3 c3] 25)).alloc (.cells #[.slice A4 n4 c4, .int .u8 kind, .int .i64 x, .int .i64 tt, .int .i64 els] 49))) :=
    ⟨((Below.refl _ _).alloc (Nat.le_refl _) _).alloc (by simp) _⟩
  have f3 : ((w.alloc (.cells #[.string nm, .int .i64 regs, .slice A n c, .slice A3 n3 c3] 25)).alloc (.cells #[.slice A4 n4 c4, .int .u8 kind, .int .i64 x, .int .i64 tt, .int .i64 els] 49)).cell? ⟨w.heap.size, 3, none⟩ = some (.slice A3 n3 c3) :=
    (blk_cell (blk_alloc (blk_new w _) _) 3).trans rfl
  have HC := Aside0.mk (fun t => end1_any w.heap.size undef undef undef A3 n3 c3 t _ f3)
  clear f3
  by_cases k1 : kind = 1
  · subst k1
    go_enter Try.func32, Try.ntmps32
    go_wp2_with (go_at_call 54; refine (HC.out _).mono ?_; rintro e w' ⟨rfl, rfl⟩)
    all_goals (go_ret; refine ⟨retb ?_, ((Below.refl _ _).alloc (Nat.le_refl _) _).alloc (by simp) _⟩)
    all_goals (simp_all [endOk])
  · by_cases k2 : kind = 2
    · subst k2
      go_enter Try.func32, Try.ntmps32
      go_wp2_with (go_at_call 54; refine (HC.out _).mono ?_; rintro e w' ⟨rfl, rfl⟩)
      all_goals (go_ret; refine ⟨retb ?_, ((Below.refl _ _).alloc (Nat.le_refl _) _).alloc (by simp) _⟩)
      all_goals (simp_all [endOk])
      all_goals omega
    · go_enter Try.func32, Try.ntmps32
      go_wp2_with (go_at_call 54; refine (HC.out _).mono ?_; rintro e w' ⟨rfl, rfl⟩)
      all_goals (go_ret; refine ⟨retb ?_, ((Below.refl _ _).alloc (Nat.le_refl _) _).alloc (by simp) _⟩)
      all_goals (simp_all [endOk])
end Go.Proofs.Ytadaopfcgpfiiaa
