/- Lemmas: what the theorem of the claim's last text needs, joined by a program out of the seat's texts L1, L2, L3, L4. -/
import Derived.Test.YtadaopfcgpfiiaaBaseX33
import Derived.Test.YtadaopfcgpfiiaaBaseX24
import Derived.Test.YtadaopfcgpfiiaaBaseX34
namespace Go.Proofs.Ytadaopfcgpfiiaa
open Go.RowKit Go.Proofs.YtadaopfcgpfiiaaW.PrintWords Go.Proofs.YtadaopfcgpfiiaaW.PrintLast Go.Proofs.YtadaopfcgpfiiaaW.PrintMore PCg
set_option linter.unusedVariables false
set_option linter.unusedSimpArgs false
/-- one operand is in its range -/
def fldOk (hb : Int → Bool) (lo hi c x : Int) : Bool :=
  if hb c = true then (if c = 105 then (decide (lo ≤ x) && decide (x ≤ hi)) else (decide (0 ≤ x) && decide (x ≤ 15))) else (decide (0 ≤ x) && decide (x ≤ 0))
def isaOk (hb : Int → Bool) (lo hi : Int) (i : S53) : Bool := fldOk hb lo hi 97 i.f1 && fldOk hb lo hi 98 i.f2 && fldOk hb lo hi 99 i.f3 && fldOk hb lo hi 105 i.f4
def isaTo (hb : Int → Bool) (lo hi : Int) (i : S53) (k : Int) : Prop :=
  (0 < k → fldOk hb lo hi 97 i.f1 = true) ∧ (1 < k → fldOk hb lo hi 98 i.f2 = true) ∧ (2 < k → fldOk hb lo hi 99 i.f3 = true) ∧ (3 < k → fldOk hb lo hi 105 i.f4 = true)
set_option maxRecDepth 100000 in
theorem isaValid_no (i : S53) (k : Nat) (nm ops : ByteArray) (lo hi : Int) (rd ws : ByteArray) (w : World) (hf : isa_find.f k i.f0 = some (nm, ops, lo, hi, rd, ws, false)) :
    Calls Try.prog 36 #[.agg #[.int .u8 i.f0, .int .i64 i.f1, .int .i64 i.f2, .int .i64 i.f3, .int .i64 i.f4]] w fun e w' => e = .returned (.bool false) ∧ Below w.heap.size w w' := by
  have hu := Try.underlying53
  have hu2 := Try.underlying108
  have HF := fun (W : World) => Aside0.mk (isa_find.calls k i.f0 nm ops lo hi rd ws false W hf)
  have HB1 := Aside0.mk (below_alloc (Below.refl w.heap.size w) (.cells #[.int .u8 i.f0, .int .i64 i.f1, .int .i64 i.f2, .int .i64 i.f3, .int .i64 i.f4] 53))
  clear hf
  go_enter Try.func36, Try.ntmps36
  go_wp2_with fail
  refine (HF _).out.mono ?_
  rintro e w2 ⟨rfl, hd⟩
  have HB2 := Aside0.mk (below_step HB1.out hd)
  clear hd HF
  go_wp2_with fail
  go_ret
  exact ⟨rfl, below_alloc HB2.out _⟩
theorem bytes_same (w : World) (C : Array Value) (h4 : C.size = 4) : (convert 112 112 (.slice (some ⟨w.heap.size, 0, none⟩) 4 4)).run Try.prog (w.alloc (.cells C 5)) = .ok (.slice (some ⟨w.heap.size, 0, none⟩) 4 4) (w.alloc (.cells C 5 (4, 5))) := by
  have hd : Try.prog.underlying 112 = some (.slice 5) := by kernel_rfl
  have he : Try.prog.underlying 5 = some (.int .u8) := by kernel_rfl
  have hsh : (w.alloc (.cells C 5)).shape? w.heap.size = some (5, 4) := by
    have : (w.alloc (.cells C 5)).heap[w.heap.size]? = some (.cells C 5) := by
      show (w.heap.push (.cells C 5))[w.heap.size]? = _
      simp
    unfold World.shape?
    rw [this]
    simp [h4]
  have hfr : (w.alloc (.cells C 5)).freeze ⟨w.heap.size, 4, none⟩ 1 = w.alloc (.cells C 5 (4, 5)) := by
    have hm : ∀ (a : Array Obj) (x : Obj) (f : Obj → Obj), (a.push x).modify a.size f = a.push (f x) := by
      intro a x f
      apply Array.ext
      · simp
      · intro i h1 h2
        simp only [Array.getElem_modify, Array.getElem_push]
        by_cases h : a.size = i
        · subst h
          simp
        · have hi : i < a.size := by simp at h1; omega
          simp [h, hi]
    unfold World.freeze
    rw [if_neg (by decide)]
    show ({ w.alloc (.cells C 5) with heap := (w.heap.push (.cells C 5)).modify w.heap.size _ } : World) = _
    rw [hm]
    rfl
  simp [convert, run_underlying hd, run_underlying he, markStringish, hsh]
  exact hfr
theorem blk4f {w : World} {b t p q : Nat} {v0 v1 v2 v3 : Value} (h : w.heap[b]? = some (.cells #[v0, v1, v2, v3] t (p, q))) : w.cell? ⟨b, 0, none⟩ = some v0 ∧ w.cell? ⟨b, 1, none⟩ = some v1 ∧ w.cell? ⟨b, 2, none⟩ = some v2 ∧ w.cell? ⟨b, 3, none⟩ = some v3 := by
  unfold World.cell?
  dsimp only
  rw [h]
  exact ⟨rfl, rfl, rfl, rfl⟩
/-- what stands in memory in Valid's rounds -/
def VMem (i : S53) (nm ops : ByteArray) (lo hi : Int) (rd ws : ByteArray) (w : World) (bi br bs : Nat) (W : World) : Prop :=
  Below w.heap.size w W ∧ W.heap[bi]? = some (.cells #[.int .u8 i.f0, .int .i64 i.f1, .int .i64 i.f2, .int .i64 i.f3, .int .i64 i.f4] 53 (0, 0)) ∧ W.heap[br]? = some (.cells #[.string nm, .string ops, .int .i64 lo, .int .i64 hi, .string rd, .string ws] 108 (0, 0)) ∧
  W.heap[bs]? = some (.cells #[.int .u8 97, .int .u8 98, .int .u8 99, .int .u8 105] 5 (4, 5))
theorem VMem.below {i : S53} {nm ops : ByteArray} {lo hi : Int} {rd ws : ByteArray} {w : World} {bi br bs : Nat} {W W1 : World} (h : VMem i nm ops lo hi rd ws w bi br bs W) (hb : Below W.heap.size W W1) : VMem i nm ops lo hi rd ws w bi br bs W1 :=
  ⟨below_step h.1 hb, blk_below h.2.1 hb, blk_below h.2.2.1 hb, (hb.block bs (Array.getElem?_eq_some_iff.1 h.2.2.2).1).trans h.2.2.2⟩
set_option maxRecDepth 100000 in
set_option maxHeartbeats 2000000 in
theorem isaValid_any (i : S53) (k : Nat) (nm ops : ByteArray) (lo hi : Int) (rd ws : ByteArray) (w : World) (hb : Int → Bool) (hf : isa_find.f k i.f0 = some (nm, ops, lo, hi, rd, ws, true)) (hs : ops.size ≤ 1000)
    (hh : ∀ c : Int, c = 97 ∨ c = 98 ∨ c = 99 ∨ c = 105 → slices_Contains_byte_byte.f k (bytesL ops) c = some (hb c)) :
    Calls Try.prog 36 #[.agg #[.int .u8 i.f0, .int .i64 i.f1, .int .i64 i.f2, .int .i64 i.f3, .int .i64 i.f4]] w fun e w' => e = .returned (.bool (isaOk hb lo hi i)) ∧ Below w.heap.size w w' := by
  have hu := Try.underlying53
  have hu2 := Try.underlying108
  have HF := fun (W : World) => Aside0.mk (isa_find.calls k i.f0 nm ops lo hi rd ws true W hf)
  have HH := fun (c : Int) (hc : c = 97 ∨ c = 98 ∨ c = 99 ∨ c = 105) (W : World) => Aside0.mk (isaHas_any ops c k (hb c) W hs (hh c hc))
  clear hf hh
  go_enter Try.func36, Try.ntmps36
  go_wp2_with fail
  refine (HF _).out.mono ?_
  rintro e w2 ⟨rfl, hd⟩
  obtain ⟨W4, hW4⟩ : ∃ W4, (w2.alloc (.cells #[.string nm, .string ops, .int .i64 lo, .int .i64 hi, .string rd, .string ws] 108)).alloc (.cells #[.int .u8 97, .int .u8 98, .int .u8 99, .int .u8 105] 5 (4, 5)) = W4 := ⟨_, rfl⟩
  have HM : Aside0 (VMem i nm ops lo hi rd ws w w.heap.size w2.heap.size (w2.heap.size + 1) W4) := ⟨by
    have hb1 := below_alloc (Below.refl w.heap.size w) (.cells #[.int .u8 i.f0, .int .i64 i.f1, .int .i64 i.f2, .int .i64 i.f3, .int .i64 i.f4] 53)
    have hbi := blk_below (blk_new w (.cells #[.int .u8 i.f0, .int .i64 i.f1, .int .i64 i.f2, .int .i64 i.f3, .int .i64 i.f4] 53)) hd
    rw [← hW4]
    exact ⟨below_alloc (below_alloc (below_step hb1 hd) _) _, blk_alloc (blk_alloc hbi _) _, blk_alloc (blk_new _ _) _, heap_alloc_at _ _ _ (by simp)⟩⟩
  have hsm := bytes_same (w2.alloc (.cells #[.string nm, .string ops, .int .i64 lo, .int .i64 hi, .string rd, .string ws] 108)) #[.int .u8 97, .int .u8 98, .int .u8 99, .int .u8 105] rfl
  rw [World.size_alloc] at hsm
  clear hd HF
  go_wp2_with fail
  obtain ⟨br, hbr⟩ : ∃ br, w2.heap.size = br := ⟨_, rfl⟩
  rw [hbr] at HM
  rw [hbr]
  clear hW4 hsm hbr
  go_loopw [21] (fun j W => ∃ k : Int, j = .int .i64 k ∧ 0 ≤ k ∧ k ≤ 4 ∧ Aside0 (VMem i nm ops lo hi rd ws w w.heap.size br (br + 1) W ∧ isaTo hb lo hi i k)) (fun j W => 4 - (intOf j).toNat)
  case atStart => exact ⟨0, rfl, Int.le_refl _, by omega, ⟨HM.out, ⟨fun h => by omega, fun h => by omega, fun h => by omega, fun h => by omega⟩⟩⟩
  case round =>
    obtain ⟨j, rfl, hj0, hj4, hR⟩ := hrel
    obtain ⟨hV, hT⟩ := hR
    have HV := Aside0.mk hV; have HT := Aside0.mk hT
    obtain ⟨i0, i1, i2, i3, i4⟩ := blk5 hV.2.1
    obtain ⟨r0, r1, r2, r3, r4, r5⟩ := blk6 hV.2.2.1
    obtain ⟨s0, s1, s2, s3⟩ := blk4f hV.2.2.2
    clear hV hT HM
    by_cases hlt : j < 4
    · have hcs : j = 0 ∨ j = 1 ∨ j = 2 ∨ j = 3 := by omega
      clear hj0 hj4 hlt
      rcases hcs with rfl | rfl | rfl | rfl
      · cases hc : hb 97 with
        | false =>
          have HC := fun W => HH 97 (by omega) W
          rw [hc] at HC
          have HHC := Aside0.mk hc; clear hc
          go_wp2_with fail
          refine (field_a _ _ _ _ _ _ _ HV.out.2.1).mono ?_
          rintro e w5 ⟨rfl, hd5⟩
          have HV5 := Aside0.mk (HV.out.below hd5.below)
          clear i0 i1 i2 i3 i4 r0 r1 r2 r3 r4 r5 s0 s1 s2 s3 hd5
          obtain ⟨i0, i1, i2, i3, i4⟩ := blk5 HV5.out.2.1
          obtain ⟨r0, r1, r2, r3, r4, r5⟩ := blk6 HV5.out.2.2.1
          go_wp2_with fail
          refine (HC _).out.mono ?_
          rintro e w6 ⟨rfl, hb6⟩
          have HV6 := Aside0.mk (HV5.out.below hb6)
          clear i0 i1 i2 i3 i4 r0 r1 r2 r3 r4 r5 hb6 HC
          obtain ⟨r0, r1, r2, r3, r4, r5⟩ := blk6 HV6.out.2.2.1
          by_cases c1 : i.f1 < 0
          · go_wp2
            go_ret
            exact ⟨by simp [isaOk, fldOk, HHC.out]; omega, HV6.out.1⟩
          · by_cases c2 : i.f1 > 0
            · go_wp2
              go_ret
              exact ⟨by simp [isaOk, fldOk, HHC.out]; omega, HV6.out.1⟩
            · go_wp2
              go_roundw
              case rel => exact ⟨1, rfl, by omega, by omega, ⟨HV6.out, by obtain ⟨h1, h2, h3, h4⟩ := HT.out; exact ⟨fun h => by first | exact h1 (by omega) | (simp [fldOk, HHC.out]; omega), fun h => by first | exact h2 (by omega) | (exfalso; omega) | (simp [fldOk, HHC.out]; omega), fun h => by first | exact h3 (by omega) | (exfalso; omega) | (simp [fldOk, HHC.out]; omega), fun h => by first | exact h4 (by omega) | (exfalso; omega) | (simp [fldOk, HHC.out]; omega)⟩⟩⟩
              case measure => simp [intOf]
        | true =>
          have HC := fun W => HH 97 (by omega) W
          rw [hc] at HC
          have HHC := Aside0.mk hc; clear hc
          go_wp2_with fail
          refine (field_a _ _ _ _ _ _ _ HV.out.2.1).mono ?_
          rintro e w5 ⟨rfl, hd5⟩
          have HV5 := Aside0.mk (HV.out.below hd5.below)
          clear i0 i1 i2 i3 i4 r0 r1 r2 r3 r4 r5 s0 s1 s2 s3 hd5
          obtain ⟨i0, i1, i2, i3, i4⟩ := blk5 HV5.out.2.1
          obtain ⟨r0, r1, r2, r3, r4, r5⟩ := blk6 HV5.out.2.2.1
          go_wp2_with fail
          refine (HC _).out.mono ?_
          rintro e w6 ⟨rfl, hb6⟩
          have HV6 := Aside0.mk (HV5.out.below hb6)
          clear i0 i1 i2 i3 i4 r0 r1 r2 r3 r4 r5 hb6 HC
          obtain ⟨r0, r1, r2, r3, r4, r5⟩ := blk6 HV6.out.2.2.1
          by_cases c1 : i.f1 < 0
          · go_wp2
            go_ret
            exact ⟨by simp [isaOk, fldOk, HHC.out]; omega, HV6.out.1⟩
          · by_cases c2 : i.f1 > 15
            · go_wp2
              go_ret
              exact ⟨by simp [isaOk, fldOk, HHC.out]; omega, HV6.out.1⟩
            · go_wp2
              go_roundw
              case rel => exact ⟨1, rfl, by omega, by omega, ⟨HV6.out, by obtain ⟨h1, h2, h3, h4⟩ := HT.out; exact ⟨fun h => by first | exact h1 (by omega) | (simp [fldOk, HHC.out]; omega), fun h => by first | exact h2 (by omega) | (exfalso; omega) | (simp [fldOk, HHC.out]; omega), fun h => by first | exact h3 (by omega) | (exfalso; omega) | (simp [fldOk, HHC.out]; omega), fun h => by first | exact h4 (by omega) | (exfalso; omega) | (simp [fldOk, HHC.out]; omega)⟩⟩⟩
              case measure => simp [intOf]
      · cases hc : hb 98 with
        | false =>
          have HC := fun W => HH 98 (by omega) W
          rw [hc] at HC
          have HHC := Aside0.mk hc; clear hc
          go_wp2_with fail
          refine (field_b _ _ _ _ _ _ _ HV.out.2.1).mono ?_
          rintro e w5 ⟨rfl, hd5⟩
          have HV5 := Aside0.mk (HV.out.below hd5.below)
          clear i0 i1 i2 i3 i4 r0 r1 r2 r3 r4 r5 s0 s1 s2 s3 hd5
          obtain ⟨i0, i1, i2, i3, i4⟩ := blk5 HV5.out.2.1
          obtain ⟨r0, r1, r2, r3, r4, r5⟩ := blk6 HV5.out.2.2.1
          go_wp2_with fail
          refine (HC _).out.mono ?_
          rintro e w6 ⟨rfl, hb6⟩
          have HV6 := Aside0.mk (HV5.out.below hb6)
          clear i0 i1 i2 i3 i4 r0 r1 r2 r3 r4 r5 hb6 HC
          obtain ⟨r0, r1, r2, r3, r4, r5⟩ := blk6 HV6.out.2.2.1
          by_cases c1 : i.f2 < 0
          · go_wp2
            go_ret
            exact ⟨by simp [isaOk, fldOk, HHC.out]; omega, HV6.out.1⟩
          · by_cases c2 : i.f2 > 0
            · go_wp2
              go_ret
              exact ⟨by simp [isaOk, fldOk, HHC.out]; omega, HV6.out.1⟩
            · go_wp2
              go_roundw
              case rel => exact ⟨2, rfl, by omega, by omega, ⟨HV6.out, by obtain ⟨h1, h2, h3, h4⟩ := HT.out; exact ⟨fun h => by first | exact h1 (by omega) | (simp [fldOk, HHC.out]; omega), fun h => by first | exact h2 (by omega) | (exfalso; omega) | (simp [fldOk, HHC.out]; omega), fun h => by first | exact h3 (by omega) | (exfalso; omega) | (simp [fldOk, HHC.out]; omega), fun h => by first | exact h4 (by omega) | (exfalso; omega) | (simp [fldOk, HHC.out]; omega)⟩⟩⟩
              case measure => simp [intOf]
        | true =>
          have HC := fun W => HH 98 (by omega) W
          rw [hc] at HC
          have HHC := Aside0.mk hc; clear hc
          go_wp2_with fail
          refine (field_b _ _ _ _ _ _ _ HV.out.2.1).mono ?_
          rintro e w5 ⟨rfl, hd5⟩
          have HV5 := Aside0.mk (HV.out.below hd5.below)
          clear i0 i1 i2 i3 i4 r0 r1 r2 r3 r4 r5 s0 s1 s2 s3 hd5
          obtain ⟨i0, i1, i2, i3, i4⟩ := blk5 HV5.out.2.1
          obtain ⟨r0, r1, r2, r3, r4, r5⟩ := blk6 HV5.out.2.2.1
          go_wp2_with fail
          refine (HC _).out.mono ?_
          rintro e w6 ⟨rfl, hb6⟩
          have HV6 := Aside0.mk (HV5.out.below hb6)
          clear i0 i1 i2 i3 i4 r0 r1 r2 r3 r4 r5 hb6 HC
          obtain ⟨r0, r1, r2, r3, r4, r5⟩ := blk6 HV6.out.2.2.1
          by_cases c1 : i.f2 < 0
          · go_wp2
            go_ret
            exact ⟨by simp [isaOk, fldOk, HHC.out]; omega, HV6.out.1⟩
          · by_cases c2 : i.f2 > 15
            · go_wp2
              go_ret
              exact ⟨by simp [isaOk, fldOk, HHC.out]; omega, HV6.out.1⟩
            · go_wp2
              go_roundw
              case rel => exact ⟨2, rfl, by omega, by omega, ⟨HV6.out, by obtain ⟨h1, h2, h3, h4⟩ := HT.out; exact ⟨fun h => by first | exact h1 (by omega) | (simp [fldOk, HHC.out]; omega), fun h => by first | exact h2 (by omega) | (exfalso; omega) | (simp [fldOk, HHC.out]; omega), fun h => by first | exact h3 (by omega) | (exfalso; omega) | (simp [fldOk, HHC.out]; omega), fun h => by first | exact h4 (by omega) | (exfalso; omega) | (simp [fldOk, HHC.out]; omega)⟩⟩⟩
              case measure => simp [intOf]
      · cases hc : hb 99 with
        | false =>
          have HC := fun W => HH 99 (by omega) W
          rw [hc] at HC
          have HHC := Aside0.mk hc; clear hc
          go_wp2_with fail
          refine (field_c _ _ _ _ _ _ _ HV.out.2.1).mono ?_
          rintro e w5 ⟨rfl, hd5⟩
          have HV5 := Aside0.mk (HV.out.below hd5.below)
          clear i0 i1 i2 i3 i4 r0 r1 r2 r3 r4 r5 s0 s1 s2 s3 hd5
          obtain ⟨i0, i1, i2, i3, i4⟩ := blk5 HV5.out.2.1
          obtain ⟨r0, r1, r2, r3, r4, r5⟩ := blk6 HV5.out.2.2.1
          go_wp2_with fail
          refine (HC _).out.mono ?_
          rintro e w6 ⟨rfl, hb6⟩
          have HV6 := Aside0.mk (HV5.out.below hb6)
          clear i0 i1 i2 i3 i4 r0 r1 r2 r3 r4 r5 hb6 HC
          obtain ⟨r0, r1, r2, r3, r4, r5⟩ := blk6 HV6.out.2.2.1
          by_cases c1 : i.f3 < 0
          · go_wp2
            go_ret
            exact ⟨by simp [isaOk, fldOk, HHC.out]; omega, HV6.out.1⟩
          · by_cases c2 : i.f3 > 0
            · go_wp2
              go_ret
              exact ⟨by simp [isaOk, fldOk, HHC.out]; omega, HV6.out.1⟩
            · go_wp2
              go_roundw
              case rel => exact ⟨3, rfl, by omega, by omega, ⟨HV6.out, by obtain ⟨h1, h2, h3, h4⟩ := HT.out; exact ⟨fun h => by first | exact h1 (by omega) | (simp [fldOk, HHC.out]; omega), fun h => by first | exact h2 (by omega) | (exfalso; omega) | (simp [fldOk, HHC.out]; omega), fun h => by first | exact h3 (by omega) | (exfalso; omega) | (simp [fldOk, HHC.out]; omega), fun h => by first | exact h4 (by omega) | (exfalso; omega) | (simp [fldOk, HHC.out]; omega)⟩⟩⟩
              case measure => simp [intOf]
        | true =>
          have HC := fun W => HH 99 (by omega) W
          rw [hc] at HC
          have HHC := Aside0.mk hc; clear hc
          go_wp2_with fail
          refine (field_c _ _ _ _ _ _ _ HV.out.2.1).mono ?_
          rintro e w5 ⟨rfl, hd5⟩
          have HV5 := Aside0.mk (HV.out.below hd5.below)
          clear i0 i1 i2 i3 i4 r0 r1 r2 r3 r4 r5 s0 s1 s2 s3 hd5
          obtain ⟨i0, i1, i2, i3, i4⟩ := blk5 HV5.out.2.1
          obtain ⟨r0, r1, r2, r3, r4, r5⟩ := blk6 HV5.out.2.2.1
          go_wp2_with fail
          refine (HC _).out.mono ?_
          rintro e w6 ⟨rfl, hb6⟩
          have HV6 := Aside0.mk (HV5.out.below hb6)
          clear i0 i1 i2 i3 i4 r0 r1 r2 r3 r4 r5 hb6 HC
          obtain ⟨r0, r1, r2, r3, r4, r5⟩ := blk6 HV6.out.2.2.1
          by_cases c1 : i.f3 < 0
          · go_wp2
            go_ret
            exact ⟨by simp [isaOk, fldOk, HHC.out]; omega, HV6.out.1⟩
          · by_cases c2 : i.f3 > 15
            · go_wp2
              go_ret
              exact ⟨by simp [isaOk, fldOk, HHC.out]; omega, HV6.out.1⟩
            · go_wp2
              go_roundw
              case rel => exact ⟨3, rfl, by omega, by omega, ⟨HV6.out, by obtain ⟨h1, h2, h3, h4⟩ := HT.out; exact ⟨fun h => by first | exact h1 (by omega) | (simp [fldOk, HHC.out]; omega), fun h => by first | exact h2 (by omega) | (exfalso; omega) | (simp [fldOk, HHC.out]; omega), fun h => by first | exact h3 (by omega) | (exfalso; omega) | (simp [fldOk, HHC.out]; omega), fun h => by first | exact h4 (by omega) | (exfalso; omega) | (simp [fldOk, HHC.out]; omega)⟩⟩⟩
              case measure => simp [intOf]
      · cases hc : hb 105 with
        | false =>
          have HC := fun W => HH 105 (by omega) W
          rw [hc] at HC
          have HHC := Aside0.mk hc; clear hc
          go_wp2_with fail
          refine (field_i _ _ _ _ _ _ _ HV.out.2.1).mono ?_
          rintro e w5 ⟨rfl, hd5⟩
          have HV5 := Aside0.mk (HV.out.below hd5.below)
          clear i0 i1 i2 i3 i4 r0 r1 r2 r3 r4 r5 s0 s1 s2 s3 hd5
          obtain ⟨i0, i1, i2, i3, i4⟩ := blk5 HV5.out.2.1
          obtain ⟨r0, r1, r2, r3, r4, r5⟩ := blk6 HV5.out.2.2.1
          go_wp2_with fail
          refine (HC _).out.mono ?_
          rintro e w6 ⟨rfl, hb6⟩
          have HV6 := Aside0.mk (HV5.out.below hb6)
          clear i0 i1 i2 i3 i4 r0 r1 r2 r3 r4 r5 hb6 HC
          obtain ⟨r0, r1, r2, r3, r4, r5⟩ := blk6 HV6.out.2.2.1
          by_cases c1 : i.f4 < 0
          · go_wp2
            go_ret
            exact ⟨by simp [isaOk, fldOk, HHC.out]; omega, HV6.out.1⟩
          · by_cases c2 : i.f4 > 0
            · go_wp2
              go_ret
              exact ⟨by simp [isaOk, fldOk, HHC.out]; omega, HV6.out.1⟩
            · go_wp2
              go_roundw
              case rel => exact ⟨4, rfl, by omega, by omega, ⟨HV6.out, by obtain ⟨h1, h2, h3, h4⟩ := HT.out; exact ⟨fun h => by first | exact h1 (by omega) | (simp [fldOk, HHC.out]; omega), fun h => by first | exact h2 (by omega) | (exfalso; omega) | (simp [fldOk, HHC.out]; omega), fun h => by first | exact h3 (by omega) | (exfalso; omega) | (simp [fldOk, HHC.out]; omega), fun h => by first | exact h4 (by omega) | (exfalso; omega) | (simp [fldOk, HHC.out]; omega)⟩⟩⟩
              case measure => simp [intOf]
        | true =>
          have HC := fun W => HH 105 (by omega) W
          rw [hc] at HC
          have HHC := Aside0.mk hc; clear hc
          go_wp2_with fail
          refine (field_i _ _ _ _ _ _ _ HV.out.2.1).mono ?_
          rintro e w5 ⟨rfl, hd5⟩
          have HV5 := Aside0.mk (HV.out.below hd5.below)
          clear i0 i1 i2 i3 i4 r0 r1 r2 r3 r4 r5 s0 s1 s2 s3 hd5
          obtain ⟨i0, i1, i2, i3, i4⟩ := blk5 HV5.out.2.1
          obtain ⟨r0, r1, r2, r3, r4, r5⟩ := blk6 HV5.out.2.2.1
          go_wp2_with fail
          refine (HC _).out.mono ?_
          rintro e w6 ⟨rfl, hb6⟩
          have HV6 := Aside0.mk (HV5.out.below hb6)
          clear i0 i1 i2 i3 i4 r0 r1 r2 r3 r4 r5 hb6 HC
          obtain ⟨r0, r1, r2, r3, r4, r5⟩ := blk6 HV6.out.2.2.1
          go_upto_region 11 with (fail)
          go_region
          all_goals
            by_cases c1 : i.f4 < lo
            · go_wp2
              go_ret
              exact ⟨by simp [isaOk, fldOk, HHC.out]; omega, (HV6.out.below (below_drew (Below.refl _ _))).1⟩
            · by_cases c2 : i.f4 > hi
              · go_wp2
                go_ret
                exact ⟨by simp [isaOk, fldOk, HHC.out]; omega, (HV6.out.below (below_drew (Below.refl _ _))).1⟩
              · go_wp2
                go_roundw
                case rel => exact ⟨4, rfl, by omega, by omega, ⟨HV6.out.below (below_drew (Below.refl _ _)), by obtain ⟨h1, h2, h3, h4⟩ := HT.out; exact ⟨fun h => by first | exact h1 (by omega) | (simp [fldOk, HHC.out]; omega), fun h => by first | exact h2 (by omega) | (exfalso; omega) | (simp [fldOk, HHC.out]; omega), fun h => by first | exact h3 (by omega) | (exfalso; omega) | (simp [fldOk, HHC.out]; omega), fun h => by first | exact h4 (by omega) | (exfalso; omega) | (simp [fldOk, HHC.out]; omega)⟩⟩⟩
                case measure => simp [intOf]
    · have e : j = 4 := by omega
      subst e
      go_wp2
      go_ret
      obtain ⟨h1, h2, h3, h4⟩ := HT.out
      exact ⟨by simp [isaOk, h1, h2, h3, h4], HV.out.1⟩
end Go.Proofs.Ytadaopfcgpfiiaa
namespace Go.Proofs.Ytadaopfcgpfiiaa
open Go.RowKit Go.Proofs.YtadaopfcgpfiiaaW.PrintWords Go.Proofs.YtadaopfcgpfiiaaW.PrintLast Go.Proofs.YtadaopfcgpfiiaaW.PrintMore PCg
set_option linter.unusedVariables false
set_option linter.unusedSimpArgs false
/-- the registers that an opcode has, and its immediate's range (low above high: none) -/
def fmtOf (op : Int) : Option (Nat × Int × Int) :=
  if 2 ≤ op ∧ op ≤ 13 then some (3, 1, 0)
  else if op = 0 ∨ op = 1 then some (0, 1, 0)
  else if op = 14 then some (1, -131072, 131071)
  else if op = 15 ∨ op = 18 ∨ op = 19 ∨ op = 20 ∨ op = 21 then some (2, -131072, 131071)
  else if op = 16 then some (2, 0, 31)
  else if op = 17 then some (2, 0, 16383)
  else if op = 22 ∨ op = 23 then some (1, -131072, 131071)
  else if op = 24 then some (0, -131072, 131071)
  else if op = 25 then some (1, 1, 131071)
  else if op = 26 ∨ op = 27 then some (1, 0, 7)
  else if op = 28 ∨ op = 29 then some (0, 0, 3)
  else none
def regB (used : Bool) (x : Int) : Bool := if used then (decide (0 ≤ x) && decide (x < 16)) else x == 0
/-- an instruction is valid -/
def instrB (i : S53) : Bool :=
  match fmtOf i.f0 with
  | none => false
  | some (n, lo, hi) => regB (decide (0 < n)) i.f1 && regB (decide (1 < n)) i.f2 && regB (decide (2 < n)) i.f3 && (if lo > hi then i.f4 == 0 else (decide (lo ≤ i.f4) && decide (i.f4 ≤ hi)))
abbrev rowZ : ByteArray × ByteArray × Int × Int × ByteArray × ByteArray × Bool := (⟨#[]⟩, ⟨#[]⟩, 0, 0, ⟨#[]⟩, ⟨#[]⟩, false)
theorem of_find (i : S53) (w : World) (r : ByteArray × ByteArray × Int × Int × ByteArray × ByteArray × Bool) (ops : ByteArray) (lo hi : Int) (hb : Int → Bool) (hf : isa_find.f 100 i.f0 = some r) (h1 : r.2.1 = ops) (h2 : r.2.2.1 = lo) (h3 : r.2.2.2.1 = hi) (h4 : r.2.2.2.2.2.2 = true) (hs : ops.size ≤ 1000)
    (hh : ∀ c : Int, c = 97 ∨ c = 98 ∨ c = 99 ∨ c = 105 → slices_Contains_byte_byte.f 100 (bytesL ops) c = some (hb c)) (he : isaOk hb lo hi i = instrB i) :
    Calls Try.prog 36 #[.agg #[.int .u8 i.f0, .int .i64 i.f1, .int .i64 i.f2, .int .i64 i.f3, .int .i64 i.f4]] w fun e w' => e = .returned (.bool (instrB i)) ∧ Below w.heap.size w w' := by
  obtain ⟨nm, ops', lo', hi', rd, ws, ok⟩ := r
  dsimp only at h1 h2 h3 h4
  subst h1 h2 h3 h4
  rw [← he]
  exact isaValid_any i 100 nm ops' lo' hi' rd ws w hb hf hs hh
def hb_none (c : Int) : Bool := false
theorem hh_none : ∀ c : Int, c = 97 ∨ c = 98 ∨ c = 99 ∨ c = 105 → slices_Contains_byte_byte.f 100 (bytesL ⟨#[]⟩) c = some (hb_none c) := by
  intro c hc
  rcases hc with rfl | rfl | rfl | rfl <;> kernel_rfl
theorem ok_none (i : S53) (lo hi : Int) (hf : fmtOf i.f0 = some (0, 1, 0)) : isaOk hb_none lo hi i = instrB i := by
  unfold instrB
  rw [hf]
  rw [Bool.eq_iff_iff]
  simp [isaOk, fldOk, hb_none, regB]
  try (rw [])
  
  omega
def hb_abc (c : Int) : Bool := decide (c = 97) || decide (c = 98) || decide (c = 99)
theorem hh_abc : ∀ c : Int, c = 97 ∨ c = 98 ∨ c = 99 ∨ c = 105 → slices_Contains_byte_byte.f 100 (bytesL ⟨#[97, 98, 99]⟩) c = some (hb_abc c) := by
  intro c hc
  rcases hc with rfl | rfl | rfl | rfl <;> kernel_rfl
theorem ok_abc (i : S53) (lo hi : Int) (hf : fmtOf i.f0 = some (3, 1, 0)) : isaOk hb_abc lo hi i = instrB i := by
  unfold instrB
  rw [hf]
  rw [Bool.eq_iff_iff]
  simp [isaOk, fldOk, hb_abc, regB]
  try (rw [])
  
  omega
def hb_ai (c : Int) : Bool := decide (c = 97) || decide (c = 105)
theorem hh_ai : ∀ c : Int, c = 97 ∨ c = 98 ∨ c = 99 ∨ c = 105 → slices_Contains_byte_byte.f 100 (bytesL ⟨#[97, 105]⟩) c = some (hb_ai c) := by
  intro c hc
  rcases hc with rfl | rfl | rfl | rfl <;> kernel_rfl
theorem ok_ai (i : S53) (lo hi : Int) (hf : fmtOf i.f0 = some (1, lo, hi)) (hlh : lo ≤ hi) : isaOk hb_ai lo hi i = instrB i := by
  unfold instrB
  rw [hf]
  rw [Bool.eq_iff_iff]
  simp [isaOk, fldOk, hb_ai, regB]
  (rw [if_neg (show ¬ hi < lo by omega)])
  try simp only [Bool.and_eq_true, decide_eq_true_eq]
  omega
def hb_abi (c : Int) : Bool := decide (c = 97) || decide (c = 98) || decide (c = 105)
theorem hh_abi : ∀ c : Int, c = 97 ∨ c = 98 ∨ c = 99 ∨ c = 105 → slices_Contains_byte_byte.f 100 (bytesL ⟨#[97, 98, 105]⟩) c = some (hb_abi c) := by
  intro c hc
  rcases hc with rfl | rfl | rfl | rfl <;> kernel_rfl
theorem ok_abi (i : S53) (lo hi : Int) (hf : fmtOf i.f0 = some (2, lo, hi)) (hlh : lo ≤ hi) : isaOk hb_abi lo hi i = instrB i := by
  unfold instrB
  rw [hf]
  rw [Bool.eq_iff_iff]
  simp [isaOk, fldOk, hb_abi, regB]
  (rw [if_neg (show ¬ hi < lo by omega)])
  try simp only [Bool.and_eq_true, decide_eq_true_eq]
  omega
def hb_i (c : Int) : Bool := decide (c = 105)
theorem hh_i : ∀ c : Int, c = 97 ∨ c = 98 ∨ c = 99 ∨ c = 105 → slices_Contains_byte_byte.f 100 (bytesL ⟨#[105]⟩) c = some (hb_i c) := by
  intro c hc
  rcases hc with rfl | rfl | rfl | rfl <;> kernel_rfl
theorem ok_i (i : S53) (lo hi : Int) (hf : fmtOf i.f0 = some (0, lo, hi)) (hlh : lo ≤ hi) : isaOk hb_i lo hi i = instrB i := by
  unfold instrB
  rw [hf]
  rw [Bool.eq_iff_iff]
  simp [isaOk, fldOk, hb_i, regB]
  (rw [if_neg (show ¬ hi < lo by omega)])
  try simp only [Bool.and_eq_true, decide_eq_true_eq]
  omega
theorem find_none (op : Int) (h0 : 30 ≤ op) (h1 : op < 256) : isa_find.f 100 op = some rowZ := by
  have hr : ∃ l, isa_rows.f 100 = some l ∧ l.length = 30 := ⟨(isa_rows.f 100).getD [], by kernel_rfl, by kernel_rfl⟩
  obtain ⟨l, hl, hn⟩ := hr
  unfold isa_find.f
  rw [hl, Option.bind_some, w64 (by omega), if_pos (by omega)]
theorem fmt_none (op : Int) (h0 : 30 ≤ op) : fmtOf op = none := by
  unfold fmtOf
  repeat rw [if_neg (by omega)]
set_option maxRecDepth 100000 in
theorem isaValid_all (i : S53) (w : World) (h0 : 0 ≤ i.f0) (h1 : i.f0 < 256) :
    Calls Try.prog 36 #[.agg #[.int .u8 i.f0, .int .i64 i.f1, .int .i64 i.f2, .int .i64 i.f3, .int .i64 i.f4]] w fun e w' => e = .returned (.bool (instrB i)) ∧ Below w.heap.size w w' := by
  obtain ⟨op, a, b, c, m⟩ := i
  dsimp only at h0 h1
  by_cases h : 30 ≤ op
  · have hn : instrB ⟨op, a, b, c, m⟩ = false := by
      unfold instrB
      rw [fmt_none _ h]
    rw [hn]
    exact isaValid_no ⟨op, a, b, c, m⟩ 100 _ _ _ _ _ _ w (find_none op h h1)
  have hc : op = 0 ∨ op = 1 ∨ op = 2 ∨ op = 3 ∨ op = 4 ∨ op = 5 ∨ op = 6 ∨ op = 7 ∨ op = 8 ∨ op = 9 ∨ op = 10 ∨ op = 11 ∨ op = 12 ∨ op = 13 ∨ op = 14 ∨ op = 15 ∨ op = 16 ∨ op = 17 ∨ op = 18 ∨ op = 19 ∨ op = 20 ∨ op = 21 ∨ op = 22 ∨ op = 23 ∨ op = 24 ∨ op = 25 ∨ op = 26 ∨ op = 27 ∨ op = 28 ∨ op = 29 := by omega
  rcases hc with rfl | rfl | rfl | rfl | rfl | rfl | rfl | rfl | rfl | rfl | rfl | rfl | rfl | rfl | rfl | rfl | rfl | rfl | rfl | rfl | rfl | rfl | rfl | rfl | rfl | rfl | rfl | rfl | rfl | rfl
  · exact of_find _ w ((isa_find.f 100 0).getD rowZ) ⟨#[]⟩ (0) 0 hb_none (by kernel_rfl) (by kernel_rfl) (by kernel_rfl) (by kernel_rfl) (by kernel_rfl) (by decide) hh_none (ok_none _ _ _ (by rfl))
  · exact of_find _ w ((isa_find.f 100 1).getD rowZ) ⟨#[]⟩ (0) 0 hb_none (by kernel_rfl) (by kernel_rfl) (by kernel_rfl) (by kernel_rfl) (by kernel_rfl) (by decide) hh_none (ok_none _ _ _ (by rfl))
  · exact of_find _ w ((isa_find.f 100 2).getD rowZ) ⟨#[97, 98, 99]⟩ (0) 0 hb_abc (by kernel_rfl) (by kernel_rfl) (by kernel_rfl) (by kernel_rfl) (by kernel_rfl) (by decide) hh_abc (ok_abc _ _ _ (by rfl))
  · exact of_find _ w ((isa_find.f 100 3).getD rowZ) ⟨#[97, 98, 99]⟩ (0) 0 hb_abc (by kernel_rfl) (by kernel_rfl) (by kernel_rfl) (by kernel_rfl) (by kernel_rfl) (by decide) hh_abc (ok_abc _ _ _ (by rfl))
  · exact of_find _ w ((isa_find.f 100 4).getD rowZ) ⟨#[97, 98, 99]⟩ (0) 0 hb_abc (by kernel_rfl) (by kernel_rfl) (by kernel_rfl) (by kernel_rfl) (by kernel_rfl) (by decide) hh_abc (ok_abc _ _ _ (by rfl))
  · exact of_find _ w ((isa_find.f 100 5).getD rowZ) ⟨#[97, 98, 99]⟩ (0) 0 hb_abc (by kernel_rfl) (by kernel_rfl) (by kernel_rfl) (by kernel_rfl) (by kernel_rfl) (by decide) hh_abc (ok_abc _ _ _ (by rfl))
  · exact of_find _ w ((isa_find.f 100 6).getD rowZ) ⟨#[97, 98, 99]⟩ (0) 0 hb_abc (by kernel_rfl) (by kernel_rfl) (by kernel_rfl) (by kernel_rfl) (by kernel_rfl) (by decide) hh_abc (ok_abc _ _ _ (by rfl))
  · exact of_find _ w ((isa_find.f 100 7).getD rowZ) ⟨#[97, 98, 99]⟩ (0) 0 hb_abc (by kernel_rfl) (by kernel_rfl) (by kernel_rfl) (by kernel_rfl) (by kernel_rfl) (by decide) hh_abc (ok_abc _ _ _ (by rfl))
  · exact of_find _ w ((isa_find.f 100 8).getD rowZ) ⟨#[97, 98, 99]⟩ (0) 0 hb_abc (by kernel_rfl) (by kernel_rfl) (by kernel_rfl) (by kernel_rfl) (by kernel_rfl) (by decide) hh_abc (ok_abc _ _ _ (by rfl))
  · exact of_find _ w ((isa_find.f 100 9).getD rowZ) ⟨#[97, 98, 99]⟩ (0) 0 hb_abc (by kernel_rfl) (by kernel_rfl) (by kernel_rfl) (by kernel_rfl) (by kernel_rfl) (by decide) hh_abc (ok_abc _ _ _ (by rfl))
  · exact of_find _ w ((isa_find.f 100 10).getD rowZ) ⟨#[97, 98, 99]⟩ (0) 0 hb_abc (by kernel_rfl) (by kernel_rfl) (by kernel_rfl) (by kernel_rfl) (by kernel_rfl) (by decide) hh_abc (ok_abc _ _ _ (by rfl))
  · exact of_find _ w ((isa_find.f 100 11).getD rowZ) ⟨#[97, 98, 99]⟩ (0) 0 hb_abc (by kernel_rfl) (by kernel_rfl) (by kernel_rfl) (by kernel_rfl) (by kernel_rfl) (by decide) hh_abc (ok_abc _ _ _ (by rfl))
  · exact of_find _ w ((isa_find.f 100 12).getD rowZ) ⟨#[97, 98, 99]⟩ (0) 0 hb_abc (by kernel_rfl) (by kernel_rfl) (by kernel_rfl) (by kernel_rfl) (by kernel_rfl) (by decide) hh_abc (ok_abc _ _ _ (by rfl))
  · exact of_find _ w ((isa_find.f 100 13).getD rowZ) ⟨#[97, 98, 99]⟩ (0) 0 hb_abc (by kernel_rfl) (by kernel_rfl) (by kernel_rfl) (by kernel_rfl) (by kernel_rfl) (by decide) hh_abc (ok_abc _ _ _ (by rfl))
  · exact of_find _ w ((isa_find.f 100 14).getD rowZ) ⟨#[97, 105]⟩ (-131072) 131071 hb_ai (by kernel_rfl) (by kernel_rfl) (by kernel_rfl) (by kernel_rfl) (by kernel_rfl) (by decide) hh_ai (ok_ai _ _ _ (by rfl) (by omega))
  · exact of_find _ w ((isa_find.f 100 15).getD rowZ) ⟨#[97, 98, 105]⟩ (-131072) 131071 hb_abi (by kernel_rfl) (by kernel_rfl) (by kernel_rfl) (by kernel_rfl) (by kernel_rfl) (by decide) hh_abi (ok_abi _ _ _ (by rfl) (by omega))
  · exact of_find _ w ((isa_find.f 100 16).getD rowZ) ⟨#[97, 98, 105]⟩ (0) 31 hb_abi (by kernel_rfl) (by kernel_rfl) (by kernel_rfl) (by kernel_rfl) (by kernel_rfl) (by decide) hh_abi (ok_abi _ _ _ (by rfl) (by omega))
  · exact of_find _ w ((isa_find.f 100 17).getD rowZ) ⟨#[97, 98, 105]⟩ (0) 16383 hb_abi (by kernel_rfl) (by kernel_rfl) (by kernel_rfl) (by kernel_rfl) (by kernel_rfl) (by decide) hh_abi (ok_abi _ _ _ (by rfl) (by omega))
  · exact of_find _ w ((isa_find.f 100 18).getD rowZ) ⟨#[97, 98, 105]⟩ (-131072) 131071 hb_abi (by kernel_rfl) (by kernel_rfl) (by kernel_rfl) (by kernel_rfl) (by kernel_rfl) (by decide) hh_abi (ok_abi _ _ _ (by rfl) (by omega))
  · exact of_find _ w ((isa_find.f 100 19).getD rowZ) ⟨#[97, 98, 105]⟩ (-131072) 131071 hb_abi (by kernel_rfl) (by kernel_rfl) (by kernel_rfl) (by kernel_rfl) (by kernel_rfl) (by decide) hh_abi (ok_abi _ _ _ (by rfl) (by omega))
  · exact of_find _ w ((isa_find.f 100 20).getD rowZ) ⟨#[97, 98, 105]⟩ (-131072) 131071 hb_abi (by kernel_rfl) (by kernel_rfl) (by kernel_rfl) (by kernel_rfl) (by kernel_rfl) (by decide) hh_abi (ok_abi _ _ _ (by rfl) (by omega))
  · exact of_find _ w ((isa_find.f 100 21).getD rowZ) ⟨#[97, 98, 105]⟩ (-131072) 131071 hb_abi (by kernel_rfl) (by kernel_rfl) (by kernel_rfl) (by kernel_rfl) (by kernel_rfl) (by decide) hh_abi (ok_abi _ _ _ (by rfl) (by omega))
  · exact of_find _ w ((isa_find.f 100 22).getD rowZ) ⟨#[97, 105]⟩ (-131072) 131071 hb_ai (by kernel_rfl) (by kernel_rfl) (by kernel_rfl) (by kernel_rfl) (by kernel_rfl) (by decide) hh_ai (ok_ai _ _ _ (by rfl) (by omega))
  · exact of_find _ w ((isa_find.f 100 23).getD rowZ) ⟨#[97, 105]⟩ (-131072) 131071 hb_ai (by kernel_rfl) (by kernel_rfl) (by kernel_rfl) (by kernel_rfl) (by kernel_rfl) (by decide) hh_ai (ok_ai _ _ _ (by rfl) (by omega))
  · exact of_find _ w ((isa_find.f 100 24).getD rowZ) ⟨#[105]⟩ (-131072) 131071 hb_i (by kernel_rfl) (by kernel_rfl) (by kernel_rfl) (by kernel_rfl) (by kernel_rfl) (by decide) hh_i (ok_i _ _ _ (by rfl) (by omega))
  · exact of_find _ w ((isa_find.f 100 25).getD rowZ) ⟨#[97, 105]⟩ (1) 131071 hb_ai (by kernel_rfl) (by kernel_rfl) (by kernel_rfl) (by kernel_rfl) (by kernel_rfl) (by decide) hh_ai (ok_ai _ _ _ (by rfl) (by omega))
  · exact of_find _ w ((isa_find.f 100 26).getD rowZ) ⟨#[97, 105]⟩ (0) 7 hb_ai (by kernel_rfl) (by kernel_rfl) (by kernel_rfl) (by kernel_rfl) (by kernel_rfl) (by decide) hh_ai (ok_ai _ _ _ (by rfl) (by omega))
  · exact of_find _ w ((isa_find.f 100 27).getD rowZ) ⟨#[97, 105]⟩ (0) 7 hb_ai (by kernel_rfl) (by kernel_rfl) (by kernel_rfl) (by kernel_rfl) (by kernel_rfl) (by decide) hh_ai (ok_ai _ _ _ (by rfl) (by omega))
  · exact of_find _ w ((isa_find.f 100 28).getD rowZ) ⟨#[105]⟩ (0) 3 hb_i (by kernel_rfl) (by kernel_rfl) (by kernel_rfl) (by kernel_rfl) (by kernel_rfl) (by decide) hh_i (ok_i _ _ _ (by rfl) (by omega))
  · exact of_find _ w ((isa_find.f 100 29).getD rowZ) ⟨#[105]⟩ (0) 3 hb_i (by kernel_rfl) (by kernel_rfl) (by kernel_rfl) (by kernel_rfl) (by kernel_rfl) (by decide) hh_i (ok_i _ _ _ (by rfl) (by omega))
end Go.Proofs.Ytadaopfcgpfiiaa
namespace Go.Proofs.Ytadaopfcgpfiiaa
open Go.RowKit Go.Proofs.YtadaopfcgpfiiaaW.PrintWords Go.Proofs.YtadaopfcgpfiiaaW.PrintLast Go.Proofs.YtadaopfcgpfiiaaW.PrintMore PCg
set_option linter.unusedVariables false
set_option linter.unusedSimpArgs false
theorem reg_f (x : Int) (b : Bool) : ontimeref04_reg.f x b = some (regB b x) := by
  unfold ontimeref04_reg.f regB
  cases b with
  | false => rfl
  | true =>
    by_cases h : x ≥ 0
    · have h2 : decide (0 ≤ x) = true := decide_eq_true h
      simp [h]
    · have h2 : decide (0 ≤ x) = false := decide_eq_false h
      simp [h]
theorem reg_any (x : Int) (b r : Bool) (h : regB b x = r) (w : World) : Calls Try.prog 61 #[.int .i64 x, .bool b] w fun e w' => e = .returned (.bool r) ∧ Drawn0 w w' := ontimeref04_reg.calls x b _ w (by rw [reg_f, h])
/-- the box of the instruction -/
def IBox (i : S53) (w : World) (b : Nat) (W : World) : Prop := Below w.heap.size w W ∧ W.heap[b]? = some (.cells #[.int .u8 i.f0, .int .i64 i.f1, .int .i64 i.f2, .int .i64 i.f3, .int .i64 i.f4] 53 (0, 0))
theorem IBox.below {i : S53} {w : World} {b : Nat} {W W1 : World} (h : IBox i w b W) (hb : Below W.heap.size W W1) : IBox i w b W1 := ⟨below_step h.1 hb, blk_below h.2 hb⟩
theorem iBox_new (i : S53) (w : World) : IBox i w w.heap.size (w.alloc (.cells #[.int .u8 i.f0, .int .i64 i.f1, .int .i64 i.f2, .int .i64 i.f3, .int .i64 i.f4] 53)) := ⟨below_alloc (Below.refl _ _) _, blk_new _ _⟩
set_option maxRecDepth 100000 in
theorem ref04_no (i : S53) (k : Nat) (nm : ByteArray) (lo hi : Int) (w : World) (hf : ontimeref04_Format.f k i.f0 = some (nm, lo, hi, false)) :
    Calls Try.prog 39 #[.agg #[.int .u8 i.f0, .int .i64 i.f1, .int .i64 i.f2, .int .i64 i.f3, .int .i64 i.f4]] w fun e w' => e = .returned (.bool false) ∧ Below w.heap.size w w' := by
  have hu := Try.underlying53
  have HF := fun (W : World) => Aside0.mk (ontimeref04_Format.calls k i.f0 nm lo hi false W hf)
  have HB1 := Aside0.mk (iBox_new i w)
  clear hf
  go_enter Try.func39, Try.ntmps39
  go_wp2_with fail
  with_reducible refine (HF _).out.mono ?_
  rintro e w2 ⟨rfl, hd⟩
  have HB2 := Aside0.mk (HB1.out.below hd.below)
  clear hd HF
  go_wp2_with fail
  go_ret
  exact ⟨rfl, HB2.out.1⟩
set_option maxRecDepth 100000 in
set_option maxHeartbeats 2000000 in
theorem ref04_any (i : S53) (k : Nat) (nm : ByteArray) (lo hi : Int) (w : World) (hf : ontimeref04_Format.f k i.f0 = some (nm, lo, hi, true)) (hn : nm.size ≤ 100) :
    Calls Try.prog 39 #[.agg #[.int .u8 i.f0, .int .i64 i.f1, .int .i64 i.f2, .int .i64 i.f3, .int .i64 i.f4]] w fun e w' => e = .returned (.bool (regB (decide (0 < nm.size)) i.f1 && regB (decide ((nm.size : Int) > 1)) i.f2 && regB (decide ((nm.size : Int) > 2)) i.f3 && (if lo > hi then i.f4 == 0 else (decide (lo ≤ i.f4) && decide (i.f4 ≤ hi))))) ∧ Below w.heap.size w w' := by
  have hu := Try.underlying53
  have HF := fun (W : World) => Aside0.mk (ontimeref04_Format.calls k i.f0 nm lo hi true W hf)
  have HB1 := Aside0.mk (iBox_new i w)
  obtain ⟨r1, e1⟩ : ∃ r, regB (decide (0 < nm.size)) i.f1 = r := ⟨_, rfl⟩
  obtain ⟨r2, e2⟩ : ∃ r, regB (decide ((nm.size : Int) > 1)) i.f2 = r := ⟨_, rfl⟩
  obtain ⟨r3, e3⟩ : ∃ r, regB (decide ((nm.size : Int) > 2)) i.f3 = r := ⟨_, rfl⟩
  rw [e1, e2, e3]
  have HR1 := fun (W : World) => Aside0.mk (reg_any i.f1 _ r1 e1 W)
  have HR2 := fun (W : World) => Aside0.mk (reg_any i.f2 _ r2 e2 W)
  have HR3 := fun (W : World) => Aside0.mk (reg_any i.f3 _ r3 e3 W)
  clear hf e1 e2 e3
  go_enter Try.func39, Try.ntmps39
  go_wp2_with fail
  with_reducible refine (HF _).out.mono ?_
  rintro e w2 ⟨rfl, hd⟩
  have HB2 := Aside0.mk (HB1.out.below hd.below)
  clear hd HF
  obtain ⟨c0, c1, c2, c3, c4⟩ := blk5 HB2.out.2
  go_wp2_with fail
  with_reducible refine (HR1 _).out.mono ?_
  rintro e w3 ⟨rfl, hd⟩
  have HB3 := Aside0.mk (HB2.out.below hd.below)
  clear hd HR1 c0 c1 c2 c3 c4
  obtain ⟨c0, c1, c2, c3, c4⟩ := blk5 HB3.out.2
  cases r1 with
  | false =>
    go_wp2_with fail
    all_goals (go_ret; exact ⟨by simp, HB3.out.1⟩)
  | true =>
    go_wp2_with fail
    with_reducible refine (HR2 _).out.mono ?_
    rintro e w4 ⟨rfl, hd⟩
    have HB4 := Aside0.mk (HB3.out.below hd.below)
    clear hd HR2 c0 c1 c2 c3 c4
    obtain ⟨c0, c1, c2, c3, c4⟩ := blk5 HB4.out.2
    cases r2 with
    | false =>
      go_wp2_with fail
      all_goals (go_ret; exact ⟨by simp, HB4.out.1⟩)
    | true =>
      go_wp2_with fail
      with_reducible refine (HR3 _).out.mono ?_
      rintro e w5 ⟨rfl, hd⟩
      have HB5 := Aside0.mk (HB4.out.below hd.below)
      clear hd HR3 c0 c1 c2 c3 c4
      obtain ⟨c0, c1, c2, c3, c4⟩ := blk5 HB5.out.2
      cases r3 with
      | false =>
        go_wp2_with fail
        all_goals (go_ret; exact ⟨by simp, HB5.out.1⟩)
      | true =>
        by_cases h : lo > hi
        · go_wp2_with fail
          go_ret
          exact ⟨by simp [h], HB5.out.1⟩
        · by_cases h1 : i.f4 ≥ lo
          · go_wp2_with fail
            go_ret
            exact ⟨by simp [h] <;> omega, HB5.out.1⟩
          · go_wp2_with fail
            go_ret
            exact ⟨by simp [h] <;> omega, HB5.out.1⟩
end Go.Proofs.Ytadaopfcgpfiiaa
namespace Go.Proofs.Ytadaopfcgpfiiaa
open Go.RowKit Go.Proofs.YtadaopfcgpfiiaaW.PrintWords Go.Proofs.YtadaopfcgpfiiaaW.PrintLast Go.Proofs.YtadaopfcgpfiiaaW.PrintMore PCg
set_option linter.unusedVariables false
set_option linter.unusedSimpArgs false
theorem format_none (op : Int) (h0 : 30 ≤ op) : ontimeref04_Format.f 100 op = some (⟨#[]⟩, 1, 0, false) := by
  have hb : ∀ n : Int, n < 30 → (op == n) = false := fun n hn => beq_eq_false_iff_ne.2 (by omega)
  have hd : decide (op ≤ 13) = false := decide_eq_false (by omega)
  unfold ontimeref04_Format.f
  rw [if_pos (by omega), hd]
  simp [hb, ontimeref04_Format.j0, ontimeref04_Format.j1, ontimeref04_Format.j2, ontimeref04_Format.j3, ontimeref04_Format.j4, show ¬ op = 0 by omega, show ¬ op = 1 by omega, show ¬ op = 2 by omega, show ¬ op = 3 by omega, show ¬ op = 4 by omega, show ¬ op = 5 by omega, show ¬ op = 6 by omega, show ¬ op = 7 by omega, show ¬ op = 8 by omega, show ¬ op = 9 by omega, show ¬ op = 10 by omega, show ¬ op = 11 by omega, show ¬ op = 12 by omega, show ¬ op = 13 by omega, show ¬ op = 14 by omega, show ¬ op = 15 by omega, show ¬ op = 16 by omega, show ¬ op = 17 by omega, show ¬ op = 18 by omega, show ¬ op = 19 by omega, show ¬ op = 20 by omega, show ¬ op = 21 by omega, show ¬ op = 22 by omega, show ¬ op = 23 by omega, show ¬ op = 24 by omega, show ¬ op = 25 by omega, show ¬ op = 26 by omega, show ¬ op = 27 by omega, show ¬ op = 28 by omega, show ¬ op = 29 by omega]
theorem ref04_of (i : S53) (w : World) (nm : ByteArray) (n : Nat) (lo hi : Int) (hf : ontimeref04_Format.f 100 i.f0 = some (nm, lo, hi, true)) (hn : nm.size = n) (h3 : n ≤ 3) (hm : fmtOf i.f0 = some (n, lo, hi)) :
    Calls Try.prog 39 #[.agg #[.int .u8 i.f0, .int .i64 i.f1, .int .i64 i.f2, .int .i64 i.f3, .int .i64 i.f4]] w fun e w' => e = .returned (.bool (instrB i)) ∧ Below w.heap.size w w' := by
  subst hn
  have he : instrB i = (regB (decide (0 < nm.size)) i.f1 && regB (decide ((nm.size : Int) > 1)) i.f2 && regB (decide ((nm.size : Int) > 2)) i.f3 && (if lo > hi then i.f4 == 0 else (decide (lo ≤ i.f4) && decide (i.f4 ≤ hi)))) := by
    unfold instrB
    rw [hm]
    have e1 : decide ((nm.size : Int) > 1) = decide (1 < nm.size) := decide_eq_decide.2 (by omega)
    have e2 : decide ((nm.size : Int) > 2) = decide (2 < nm.size) := decide_eq_decide.2 (by omega)
    rw [e1, e2]
  rw [he]
  exact ref04_any i 100 nm lo hi w hf (by omega)
set_option maxRecDepth 100000 in
theorem ref04_all (i : S53) (w : World) (h0 : 0 ≤ i.f0) (h1 : i.f0 < 256) :
    Calls Try.prog 39 #[.agg #[.int .u8 i.f0, .int .i64 i.f1, .int .i64 i.f2, .int .i64 i.f3, .int .i64 i.f4]] w fun e w' => e = .returned (.bool (instrB i)) ∧ Below w.heap.size w w' := by
  obtain ⟨op, a, b, c, m⟩ := i
  dsimp only at h0 h1
  by_cases h : 30 ≤ op
  · have hn : instrB ⟨op, a, b, c, m⟩ = false := by
      unfold instrB
      rw [fmt_none _ h]
    rw [hn]
    exact ref04_no ⟨op, a, b, c, m⟩ 100 _ _ _ w (format_none op h)
  have hc : op = 0 ∨ op = 1 ∨ op = 2 ∨ op = 3 ∨ op = 4 ∨ op = 5 ∨ op = 6 ∨ op = 7 ∨ op = 8 ∨ op = 9 ∨ op = 10 ∨ op = 11 ∨ op = 12 ∨ op = 13 ∨ op = 14 ∨ op = 15 ∨ op = 16 ∨ op = 17 ∨ op = 18 ∨ op = 19 ∨ op = 20 ∨ op = 21 ∨ op = 22 ∨ op = 23 ∨ op = 24 ∨ op = 25 ∨ op = 26 ∨ op = 27 ∨ op = 28 ∨ op = 29 := by omega
  rcases hc with rfl | rfl | rfl | rfl | rfl | rfl | rfl | rfl | rfl | rfl | rfl | rfl | rfl | rfl | rfl | rfl | rfl | rfl | rfl | rfl | rfl | rfl | rfl | rfl | rfl | rfl | rfl | rfl | rfl | rfl
  · exact ref04_of _ w ⟨#[]⟩ 0 (1) 0 (by kernel_rfl) (by rfl) (by decide) (by rfl)
  · exact ref04_of _ w ⟨#[]⟩ 0 (1) 0 (by kernel_rfl) (by rfl) (by decide) (by rfl)
  · exact ref04_of _ w ⟨#[65, 66, 67]⟩ 3 (1) 0 (by kernel_rfl) (by rfl) (by decide) (by rfl)
  · exact ref04_of _ w ⟨#[65, 66, 67]⟩ 3 (1) 0 (by kernel_rfl) (by rfl) (by decide) (by rfl)
  · exact ref04_of _ w ⟨#[65, 66, 67]⟩ 3 (1) 0 (by kernel_rfl) (by rfl) (by decide) (by rfl)
  · exact ref04_of _ w ⟨#[65, 66, 67]⟩ 3 (1) 0 (by kernel_rfl) (by rfl) (by decide) (by rfl)
  · exact ref04_of _ w ⟨#[65, 66, 67]⟩ 3 (1) 0 (by kernel_rfl) (by rfl) (by decide) (by rfl)
  · exact ref04_of _ w ⟨#[65, 66, 67]⟩ 3 (1) 0 (by kernel_rfl) (by rfl) (by decide) (by rfl)
  · exact ref04_of _ w ⟨#[65, 66, 67]⟩ 3 (1) 0 (by kernel_rfl) (by rfl) (by decide) (by rfl)
  · exact ref04_of _ w ⟨#[65, 66, 67]⟩ 3 (1) 0 (by kernel_rfl) (by rfl) (by decide) (by rfl)
  · exact ref04_of _ w ⟨#[65, 66, 67]⟩ 3 (1) 0 (by kernel_rfl) (by rfl) (by decide) (by rfl)
  · exact ref04_of _ w ⟨#[65, 66, 67]⟩ 3 (1) 0 (by kernel_rfl) (by rfl) (by decide) (by rfl)
  · exact ref04_of _ w ⟨#[65, 66, 67]⟩ 3 (1) 0 (by kernel_rfl) (by rfl) (by decide) (by rfl)
  · exact ref04_of _ w ⟨#[65, 66, 67]⟩ 3 (1) 0 (by kernel_rfl) (by rfl) (by decide) (by rfl)
  · exact ref04_of _ w ⟨#[65]⟩ 1 (-131072) 131071 (by kernel_rfl) (by rfl) (by decide) (by rfl)
  · exact ref04_of _ w ⟨#[65, 66]⟩ 2 (-131072) 131071 (by kernel_rfl) (by rfl) (by decide) (by rfl)
  · exact ref04_of _ w ⟨#[65, 66]⟩ 2 (0) 31 (by kernel_rfl) (by rfl) (by decide) (by rfl)
  · exact ref04_of _ w ⟨#[65, 66]⟩ 2 (0) 16383 (by kernel_rfl) (by rfl) (by decide) (by rfl)
  · exact ref04_of _ w ⟨#[65, 66]⟩ 2 (-131072) 131071 (by kernel_rfl) (by rfl) (by decide) (by rfl)
  · exact ref04_of _ w ⟨#[65, 66]⟩ 2 (-131072) 131071 (by kernel_rfl) (by rfl) (by decide) (by rfl)
  · exact ref04_of _ w ⟨#[65, 66]⟩ 2 (-131072) 131071 (by kernel_rfl) (by rfl) (by decide) (by rfl)
  · exact ref04_of _ w ⟨#[65, 66]⟩ 2 (-131072) 131071 (by kernel_rfl) (by rfl) (by decide) (by rfl)
  · exact ref04_of _ w ⟨#[65]⟩ 1 (-131072) 131071 (by kernel_rfl) (by rfl) (by decide) (by rfl)
  · exact ref04_of _ w ⟨#[65]⟩ 1 (-131072) 131071 (by kernel_rfl) (by rfl) (by decide) (by rfl)
  · exact ref04_of _ w ⟨#[]⟩ 0 (-131072) 131071 (by kernel_rfl) (by rfl) (by decide) (by rfl)
  · exact ref04_of _ w ⟨#[65]⟩ 1 (1) 131071 (by kernel_rfl) (by rfl) (by decide) (by rfl)
  · exact ref04_of _ w ⟨#[65]⟩ 1 (0) 7 (by kernel_rfl) (by rfl) (by decide) (by rfl)
  · exact ref04_of _ w ⟨#[65]⟩ 1 (0) 7 (by kernel_rfl) (by rfl) (by decide) (by rfl)
  · exact ref04_of _ w ⟨#[]⟩ 0 (0) 3 (by kernel_rfl) (by rfl) (by decide) (by rfl)
  · exact ref04_of _ w ⟨#[]⟩ 0 (0) 3 (by kernel_rfl) (by rfl) (by decide) (by rfl)
end Go.Proofs.Ytadaopfcgpfiiaa
