/- Lemmas: what the theorem of the claim's last text needs, joined by a program out of the seat's texts L1, L2, L5. -/
import Derived.Test.YtadaopfcgpfiiaaBaseX33
import Derived.Test.YtadaopfcgpfiiaaBaseX24
import Derived.Test.YtadaopfcgpfiiaaBaseX12
import Derived.Test.YtadaopfcgpfiiaaBaseX13
import Derived.Test.YtadaopfcgpfiiaaBaseX20
namespace Go.Proofs.Ytadaopfcgpfiiaa
open Go.RowKit Go.Proofs.YtadaopfcgpfiiaaW.PrintWords Go.Proofs.YtadaopfcgpfiiaaW.PrintLast Go.Proofs.YtadaopfcgpfiiaaW.PrintMore PCg
set_option linter.unusedVariables false
set_option linter.unusedSimpArgs false
/-- one operand is in its range -/
def fldOk (hb : Int → Bool) (lo hi c x : Int) : Bool :=
  if hb c = true then (if c = 105 then (decide (lo ≤ x) && decide (x ≤ hi)) else (decide (0 ≤ x) && decide (x ≤ 15))) else (decide (0 ≤ x) && decide (x ≤ 0))
def isaOk (hb : Int → Bool) (lo hi : Int) (i : S53) : Bool := fldOk hb lo hi 97 i.f1 && fldOk hb lo hi 98 i.f2 && fldOk hb lo hi 99 i.f3 && fldOk hb lo hi 105 i.f4
def isaTo (hb : Int → Bool) (lo hi : Int) (i : S53) (k : Int) : Prop :=
  (0 < k → fldOk hb lo hi 97 i.f1 = true) ∧ (1 < k → fldOk hb lo hi 98 i.f2 = true) ∧ (2 < k → fldOk hb lo hi 99 i.f3 = true) ∧ (3 < k → fldOk hb lo hi 105 i.f4 = true)
set_option maxRecDepth 100000 in
theorem isaValid_no (i : S53) (k : Nat) (nm ops : ByteArray) (lo hi : Int) (rd ws : ByteArray) (w : World) (hf : isa_find.f k i.f0 = some (nm, ops, lo, hi, rd, ws, false)) :
    Calls Try.prog 36 #[.agg #[.int .u8 i.f0, .int .i64 i.f1, .int .i64 i.f2, .int .i64 i.f3, .int .i64 i.f4]] w fun e w' => e = .returned (.bool false) ∧ Below w.heap.size w w' := by
  have hu := Try.underlying53
  have hu2 := Try.underlying108
  have HF := fun (W : World) => Aside0.mk (isa_find.calls k i.f0 nm ops lo hi rd ws false W hf)
  have HB1 := Aside0.mk (below_alloc (Below.refl w.heap.size w) (.cells #[.int .u8 i.f0, .int .i64 i.f1, .int .i64 i.f2, .int .i64 i.f3, .int .i64 i.f4] 53))
  clear hf
  go_enter Try.func36, Try.ntmps36
  go_wp2_with fail
  refine (HF _).out.mono ?_
  rintro e w2 ⟨rfl, hd⟩
  have HB2 := Aside0.mk (below_step HB1.out hd)
  clear hd HF
  go_wp2_with fail
  go_ret
  exact ⟨rfl, below_alloc HB2.out _⟩
theorem bytes_same (w : World) (C : Array Value) (h4 : C.size = 4) : (convert 112 112 (.slice (some ⟨w.heap.size, 0, none⟩) 4 4)).run Try.prog (w.alloc (.cells C 5)) = .ok (.slice (some ⟨w.heap.size, 0, none⟩) 4 4) (w.alloc (.cells C 5 (4, 5))) := by
  have hd : Try.prog.underlying 112 = some (.slice 5) := by kernel_rfl
  have he : Try.prog.underlying 5 = some (.int .u8) := by kernel_rfl
  have hsh : (w.alloc (.cells C 5)).shape? w.heap.size = some (5, 4) := by
    have : (w.alloc (.cells C 5)).heap[w.heap.size]? = some (.cells C 5) := by
      show (w.heap.push (.cells C 5))[w.heap.size]? = _
      simp
    unfold World.shape?
    rw [this]
    simp [h4]
  have hfr : (w.alloc (.cells C 5)).freeze ⟨w.heap.size, 4, none⟩ 1 = w.alloc (.cells C 5 (4, 5)) := by
    have hm : ∀ (a : Array Obj) (x : Obj) (f : Obj → Obj), (a.push x).modify a.size f = a.push (f x) := by
      intro a x f
      apply Array.ext
      · simp
      · intro i h1 h2
        simp only [Array.getElem_modify, Array.getElem_push]
        by_cases h : a.size = i
        · subst h
          simp
        · have hi : i < a.size := by simp at h1; omega
          simp [h, hi]
    unfold World.freeze
    rw [if_neg (by decide)]
    show ({ w.alloc (.cells C 5) with heap := (w.heap.push (.cells C 5)).modify w.heap.size _ } : World) = _
    rw [hm]
    rfl
  simp [convert, run_underlying hd, run_underlying he, markStringish, hsh]
  exact hfr
theorem blk4f {w : World} {b t p q : Nat} {v0 v1 v2 v3 : Value} (h : w.heap[b]? = some (.cells #[v0, v1, v2, v3] t (p, q))) : w.cell? ⟨b, 0, none⟩ = some v0 ∧ w.cell? ⟨b, 1, none⟩ = some v1 ∧ w.cell? ⟨b, 2, none⟩ = some v2 ∧ w.cell? ⟨b, 3, none⟩ = some v3 := by
  unfold World.cell?
  dsimp only
  rw [h]
  exact ⟨rfl, rfl, rfl, rfl⟩
/-- what stands in memory in Valid's rounds -/
def VMem (i : S53) (nm ops : ByteArray) (lo hi : Int) (rd ws : ByteArray) (w : World) (bi br bs : Nat) (W : World) : Prop :=
  Below w.heap.size w W ∧ W.heap[bi]? = some (.cells #[.int .u8 i.f0, .int .i64 i.f1, .int .i64 i.f2, .int .i64 i.f3, .int .i64 i.f4] 53 (0, 0)) ∧ W.heap[br]? = some (.cells #[.string nm, .string ops, .int .i64 lo, .int .i64 hi, .string rd, .string ws] 108 (0, 0)) ∧
  W.heap[bs]? = some (.cells #[.int .u8 97, .int .u8 98, .int .u8 99, .int .u8 105] 5 (4, 5))
theorem VMem.below {i : S53} {nm ops : ByteArray} {lo hi : Int} {rd ws : ByteArray} {w : World} {bi br bs : Nat} {W W1 : World} (h : VMem i nm ops lo hi rd ws w bi br bs W) (hb : Below W.heap.size W W1) : VMem i nm ops lo hi rd ws w bi br bs W1 :=
  ⟨below_step h.1 hb, blk_below h.2.1 hb, blk_below h.2.2.1 hb, (hb.block bs (Array.getElem?_eq_some_iff.1 h.2.2.2).1).trans h.2.2.2⟩
set_option maxRecDepth 100000 in
set_option maxHeartbeats 2000000 in
theorem isaValid_any (i : S53) (k : Nat) (nm ops : ByteArray) (lo hi : Int) (rd ws : ByteArray) (w : World) (hb : Int → Bool) (hf : isa_find.f k i.f0 = some (nm, ops, lo, hi, rd, ws, true)) (hs : ops.size ≤ 1000)
    (hh : ∀ c : Int, c = 97 ∨ c = 98 ∨ c = 99 ∨ c = 105 → slices_Contains_byte_byte.f k (bytesL ops) c = some (hb c)) :
    Calls Try.prog 36 #[.agg #[.int .u8 i.f0, .int .i64 i.f1, .int .i64 i.f2, .int .i64 i.f3, .int .i64 i.f4]] w fun e w' => e = .returned (.bool (isaOk hb lo hi i)) ∧ Below w.heap.size w w' := by
  have hu := Try.underlying53
  have hu2 := Try.underlying108
  have HF := fun (W : World) => Aside0.mk (isa_find.calls k i.f0 nm ops lo hi rd ws true W hf)
  have HH := fun (c : Int) (hc : c = 97 ∨ c = 98 ∨ c = 99 ∨ c = 105) (W : World) => Aside0.mk (isaHas_any ops c k (hb c) W hs (hh c hc))
  clear hf hh
  go_enter Try.func36, Try.ntmps36
  go_wp2_with fail
  refine (HF _).out.mono ?_
  rintro e w2 ⟨rfl, hd⟩
  obtain ⟨W4, hW4⟩ : ∃ W4, (w2.alloc (.cells #[.string nm, .string ops, .int .i64 lo, .int .i64 hi, .string rd, .string ws] 108)).alloc (.cells #[.int .u8 97, .int .u8 98, .int .u8 99, .int .u8 105] 5 (4, 5)) = W4 := ⟨_, rfl⟩
  have HM : Aside0 (VMem i nm ops lo hi rd ws w w.heap.size w2.heap.size (w2.heap.size + 1) W4) := ⟨by
    have hb1 := below_alloc (Below.refl w.heap.size w) (.cells #[.int .u8 i.f0, .int .i64 i.f1, .int .i64 i.f2, .int .i64 i.f3, .int .i64 i.f4] 53)
    have hbi := blk_below (blk_new w (.cells #[.int .u8 i.f0, .int .i64 i.f1, .int .i64 i.f2, .int .i64 i.f3, .int .i64 i.f4] 53)) hd
    rw [← hW4]
    exact ⟨below_alloc (below_alloc (below_step hb1 hd) _) _, blk_alloc (blk_alloc hbi _) _, blk_alloc (blk_new _ _) _, heap_alloc_at _ _ _ (by simp)⟩⟩
  have hsm := bytes_same (w2.alloc (.cells #[.string nm, .string ops, .int .i64 lo, .int .i64 hi, .string rd, .string ws] 108)) #[.int .u8 97, .int .u8 98, .int .u8 99, .int .u8 105] rfl
  rw [World.size_alloc] at hsm
  clear hd HF
  go_wp2_with fail
  obtain ⟨br, hbr⟩ : ∃ br, w2.heap.size = br := ⟨_, rfl⟩
  rw [hbr] at HM
  rw [hbr]
  clear hW4 hsm hbr
  go_loopw [21] (fun j W => ∃ k : Int, j = .int .i64 k ∧ 0 ≤ k ∧ k ≤ 4 ∧ Aside0 (VMem i nm ops lo hi rd ws w w.heap.size br (br + 1) W ∧ isaTo hb lo hi i k)) (fun j W => 4 - (intOf j).toNat)
  case atStart => exact ⟨0, rfl, Int.le_refl _, by omega, ⟨HM.out, ⟨fun h => by omega, fun h => by omega, fun h => by omega, fun h => by omega⟩⟩⟩
  case round =>
    obtain ⟨j, rfl, hj0, hj4, hR⟩ := hrel
    obtain ⟨hV, hT⟩ := hR
    have HV := Aside0.mk hV; have HT := Aside0.mk hT
    obtain ⟨i0, i1, i2, i3, i4⟩ := blk5 hV.2.1
    obtain ⟨r0, r1, r2, r3, r4, r5⟩ := blk6 hV.2.2.1
    obtain ⟨s0, s1, s2, s3⟩ := blk4f hV.2.2.2
    clear hV hT HM
    by_cases hlt : j < 4
    · have hcs : j = 0 ∨ j = 1 ∨ j = 2 ∨ j = 3 := by omega
      clear hj0 hj4 hlt
      rcases hcs with rfl | rfl | rfl | rfl
      · cases hc : hb 97 with
        | false =>
          have HC := fun W => HH 97 (by omega) W
          rw [hc] at HC
          have HHC := Aside0.mk hc; clear hc
          go_wp2_with fail
          refine (field_a _ _ _ _ _ _ _ HV.out.2.1).mono ?_
          rintro e w5 ⟨rfl, hd5⟩
          have HV5 := Aside0.mk (HV.out.below hd5.below)
          clear i0 i1 i2 i3 i4 r0 r1 r2 r3 r4 r5 s0 s1 s2 s3 hd5
          obtain ⟨i0, i1, i2, i3, i4⟩ := blk5 HV5.out.2.1
          obtain ⟨r0, r1, r2, r3, r4, r5⟩ := blk6 HV5.out.2.2.1
          go_wp2_with fail
          refine (HC _).out.mono ?_
          rintro e w6 ⟨rfl, hb6⟩
          have HV6 := Aside0.mk (HV5.out.below hb6)
          clear i0 i1 i2 i3 i4 r0 r1 r2 r3 r4 r5 hb6 HC
          obtain ⟨r0, r1, r2, r3, r4, r5⟩ := blk6 HV6.out.2.2.1
          by_cases c1 : i.f1 < 0
          · go_wp2
            go_ret
            exact ⟨by simp [isaOk, fldOk, HHC.out]; omega, HV6.out.1⟩
          · by_cases c2 : i.f1 > 0
            · go_wp2
              go_ret
              exact ⟨by simp [isaOk, fldOk, HHC.out]; omega, HV6.out.1⟩
            · go_wp2
              go_roundw
              case rel => exact ⟨1, rfl, by omega, by omega, ⟨HV6.out, by obtain ⟨h1, h2, h3, h4⟩ := HT.out; exact ⟨fun h => by first | exact h1 (by omega) | (simp [fldOk, HHC.out]; omega), fun h => by first | exact h2 (by omega) | (exfalso; omega) | (simp [fldOk, HHC.out]; omega), fun h => by first | exact h3 (by omega) | (exfalso; omega) | (simp [fldOk, HHC.out]; omega), fun h => by first | exact h4 (by omega) | (exfalso; omega) | (simp [fldOk, HHC.out]; omega)⟩⟩⟩
              case measure => simp [intOf]
        | true =>
          have HC := fun W => HH 97 (by omega) W
          rw [hc] at HC
          have HHC := Aside0.mk hc; clear hc
          go_wp2_with fail
          refine (field_a _ _ _ _ _ _ _ HV.out.2.1).mono ?_
          rintro e w5 ⟨rfl, hd5⟩
          have HV5 := Aside0.mk (HV.out.below hd5.below)
          clear i0 i1 i2 i3 i4 r0 r1 r2 r3 r4 r5 s0 s1 s2 s3 hd5
          obtain ⟨i0, i1, i2, i3, i4⟩ := blk5 HV5.out.2.1
          obtain ⟨r0, r1, r2, r3, r4, r5⟩ := blk6 HV5.out.2.2.1
          go_wp2_with fail
          refine (HC _).out.mono ?_
          rintro e w6 ⟨rfl, hb6⟩
          have HV6 := Aside0.mk (HV5.out.below hb6)
          clear i0 i1 i2 i3 i4 r0 r1 r2 r3 r4 r5 hb6 HC
          obtain ⟨r0, r1, r2, r3, r4, r5⟩ := blk6 HV6.out.2.2.1
          by_cases c1 : i.f1 < 0
          · go_wp2
            go_ret
            exact ⟨by simp [isaOk, fldOk, HHC.out]; omega, HV6.out.1⟩
          · by_cases c2 : i.f1 > 15
            · go_wp2
              go_ret
              exact ⟨by simp [isaOk, fldOk, HHC.out]; omega, HV6.out.1⟩
            · go_wp2
              go_roundw
              case rel => exact ⟨1, rfl, by omega, by omega, ⟨HV6.out, by obtain ⟨h1, h2, h3, h4⟩ := HT.out; exact ⟨fun h => by first | exact h1 (by omega) | (simp [fldOk, HHC.out]; omega), fun h => by first | exact h2 (by omega) | (exfalso; omega) | (simp [fldOk, HHC.out]; omega), fun h => by first | exact h3 (by omega) | (exfalso; omega) | (simp [fldOk, HHC.out]; omega), fun h => by first | exact h4 (by omega) | (exfalso; omega) | (simp [fldOk, HHC.out]; omega)⟩⟩⟩
              case measure => simp [intOf]
      · cases hc : hb 98 with
        | false =>
          have HC := fun W => HH 98 (by omega) W
          rw [hc] at HC
          have HHC := Aside0.mk hc; clear hc
          go_wp2_with fail
          refine (field_b _ _ _ _ _ _ _ HV.out.2.1).mono ?_
          rintro e w5 ⟨rfl, hd5⟩
          have HV5 := Aside0.mk (HV.out.below hd5.below)
          clear i0 i1 i2 i3 i4 r0 r1 r2 r3 r4 r5 s0 s1 s2 s3 hd5
          obtain ⟨i0, i1, i2, i3, i4⟩ := blk5 HV5.out.2.1
          obtain ⟨r0, r1, r2, r3, r4, r5⟩ := blk6 HV5.out.2.2.1
          go_wp2_with fail
          refine (HC _).out.mono ?_
          rintro e w6 ⟨rfl, hb6⟩
          have HV6 := Aside0.mk (HV5.out.below hb6)
          clear i0 i1 i2 i3 i4 r0 r1 r2 r3 r4 r5 hb6 HC
          obtain ⟨r0, r1, r2, r3, r4, r5⟩ := blk6 HV6.out.2.2.1
          by_cases c1 : i.f2 < 0
          · go_wp2
            go_ret
            exact ⟨by simp [isaOk, fldOk, HHC.out]; omega, HV6.out.1⟩
          · by_cases c2 : i.f2 > 0
            · go_wp2
              go_ret
              exact ⟨by simp [isaOk, fldOk, HHC.out]; omega, HV6.out.1⟩
            · go_wp2
              go_roundw
              case rel => exact ⟨2, rfl, by omega, by omega, ⟨HV6.out, by obtain ⟨h1, h2, h3, h4⟩ := HT.out; exact ⟨fun h => by first | exact h1 (by omega) | (simp [fldOk, HHC.out]; omega), fun h => by first | exact h2 (by omega) | (exfalso; omega) | (simp [fldOk, HHC.out]; omega), fun h => by first | exact h3 (by omega) | (exfalso; omega) | (simp [fldOk, HHC.out]; omega), fun h => by first | exact h4 (by omega) | (exfalso; omega) | (simp [fldOk, HHC.out]; omega)⟩⟩⟩
              case measure => simp [intOf]
        | true =>
          have HC := fun W => HH 98 (by omega) W
          rw [hc] at HC
          have HHC := Aside0.mk hc; clear hc
          go_wp2_with fail
          refine (field_b _ _ _ _ _ _ _ HV.out.2.1).mono ?_
          rintro e w5 ⟨rfl, hd5⟩
          have HV5 := Aside0.mk (HV.out.below hd5.below)
          clear i0 i1 i2 i3 i4 r0 r1 r2 r3 r4 r5 s0 s1 s2 s3 hd5
          obtain ⟨i0, i1, i2, i3, i4⟩ := blk5 HV5.out.2.1
          obtain ⟨r0, r1, r2, r3, r4, r5⟩ := blk6 HV5.out.2.2.1
          go_wp2_with fail
          refine (HC _).out.mono ?_
          rintro e w6 ⟨rfl, hb6⟩
          have HV6 := Aside0.mk (HV5.out.below hb6)
          clear i0 i1 i2 i3 i4 r0 r1 r2 r3 r4 r5 hb6 HC
          obtain ⟨r0, r1, r2, r3, r4, r5⟩ := blk6 HV6.out.2.2.1
          by_cases c1 : i.f2 < 0
          · go_wp2
            go_ret
            exact ⟨by simp [isaOk, fldOk, HHC.out]; omega, HV6.out.1⟩
          · by_cases c2 : i.f2 > 15
            · go_wp2
              go_ret
              exact ⟨by simp [isaOk, fldOk, HHC.out]; omega, HV6.out.1⟩
            · go_wp2
              go_roundw
              case rel => exact ⟨2, rfl, by omega, by omega, ⟨HV6.out, by obtain ⟨h1, h2, h3, h4⟩ := HT.out; exact ⟨fun h => by first | exact h1 (by omega) | (simp [fldOk, HHC.out]; omega), fun h => by first | exact h2 (by omega) | (exfalso; omega) | (simp [fldOk, HHC.out]; omega), fun h => by first | exact h3 (by omega) | (exfalso; omega) | (simp [fldOk, HHC.out]; omega), fun h => by first | exact h4 (by omega) | (exfalso; omega) | (simp [fldOk, HHC.out]; omega)⟩⟩⟩
              case measure => simp [intOf]
      · cases hc : hb 99 with
        | false =>
          have HC := fun W => HH 99 (by omega) W
          rw [hc] at HC
          have HHC := Aside0.mk hc; clear hc
          go_wp2_with fail
          refine (field_c _ _ _ _ _ _ _ HV.out.2.1).mono ?_
          rintro e w5 ⟨rfl, hd5⟩
          have HV5 := Aside0.mk (HV.out.below hd5.below)
          clear i0 i1 i2 i3 i4 r0 r1 r2 r3 r4 r5 s0 s1 s2 s3 hd5
          obtain ⟨i0, i1, i2, i3, i4⟩ := blk5 HV5.out.2.1
          obtain ⟨r0, r1, r2, r3, r4, r5⟩ := blk6 HV5.out.2.2.1
          go_wp2_with fail
          refine (HC _).out.mono ?_
          rintro e w6 ⟨rfl, hb6⟩
          have HV6 := Aside0.mk (HV5.out.below hb6)
          clear i0 i1 i2 i3 i4 r0 r1 r2 r3 r4 r5 hb6 HC
          obtain ⟨r0, r1, r2, r3, r4, r5⟩ := blk6 HV6.out.2.2.1
          by_cases c1 : i.f3 < 0
          · go_wp2
            go_ret
            exact ⟨by simp [isaOk, fldOk, HHC.out]; omega, HV6.out.1⟩
          · by_cases c2 : i.f3 > 0
            · go_wp2
              go_ret
              exact ⟨by simp [isaOk, fldOk, HHC.out]; omega, HV6.out.1⟩
            · go_wp2
              go_roundw
              case rel => exact ⟨3, rfl, by omega, by omega, ⟨HV6.out, by obtain ⟨h1, h2, h3, h4⟩ := HT.out; exact ⟨fun h => by first | exact h1 (by omega) | (simp [fldOk, HHC.out]; omega), fun h => by first | exact h2 (by omega) | (exfalso; omega) | (simp [fldOk, HHC.out]; omega), fun h => by first | exact h3 (by omega) | (exfalso; omega) | (simp [fldOk, HHC.out]; omega), fun h => by first | exact h4 (by omega) | (exfalso; omega) | (simp [fldOk, HHC.out]; omega)⟩⟩⟩
              case measure => simp [intOf]
        | true =>
          have HC := fun W => HH 99 (by omega) W
          rw [hc] at HC
          have HHC := Aside0.mk hc; clear hc
          go_wp2_with fail
          refine (field_c _ _ _ _ _ _ _ HV.out.2.1).mono ?_
          rintro e w5 ⟨rfl, hd5⟩
          have HV5 := Aside0.mk (HV.out.below hd5.below)
          clear i0 i1 i2 i3 i4 r0 r1 r2 r3 r4 r5 s0 s1 s2 s3 hd5
          obtain ⟨i0, i1, i2, i3, i4⟩ := blk5 HV5.out.2.1
          obtain ⟨r0, r1, r2, r3, r4, r5⟩ := blk6 HV5.out.2.2.1
          go_wp2_with fail
          refine (HC _).out.mono ?_
          rintro e w6 ⟨rfl, hb6⟩
          have HV6 := Aside0.mk (HV5.out.below hb6)
          clear i0 i1 i2 i3 i4 r0 r1 r2 r3 r4 r5 hb6 HC
          obtain ⟨r0, r1, r2, r3, r4, r5⟩ := blk6 HV6.out.2.2.1
          by_cases c1 : i.f3 < 0
          · go_wp2
            go_ret
            exact ⟨by simp [isaOk, fldOk, HHC.out]; omega, HV6.out.1⟩
          · by_cases c2 : i.f3 > 15
            · go_wp2
              go_ret
              exact ⟨by simp [isaOk, fldOk, HHC.out]; omega, HV6.out.1⟩
            · go_wp2
              go_roundw
              case rel => exact ⟨3, rfl, by omega, by omega, ⟨HV6.out, by obtain ⟨h1, h2, h3, h4⟩ := HT.out; exact ⟨fun h => by first | exact h1 (by omega) | (simp [fldOk, HHC.out]; omega), fun h => by first | exact h2 (by omega) | (exfalso; omega) | (simp [fldOk, HHC.out]; omega), fun h => by first | exact h3 (by omega) | (exfalso; omega) | (simp [fldOk, HHC.out]; omega), fun h => by first | exact h4 (by omega) | (exfalso; omega) | (simp [fldOk, HHC.out]; omega)⟩⟩⟩
              case measure => simp [intOf]
      · cases hc : hb 105 with
        | false =>
          have HC := fun W => HH 105 (by omega) W
          rw [hc] at HC
          have HHC := Aside0.mk hc; clear hc
          go_wp2_with fail
          refine (field_i _ _ _ _ _ _ _ HV.out.2.1).mono ?_
          rintro e w5 ⟨rfl, hd5⟩
          have HV5 := Aside0.mk (HV.out.below hd5.below)
          clear i0 i1 i2 i3 i4 r0 r1 r2 r3 r4 r5 s0 s1 s2 s3 hd5
          obtain ⟨i0, i1, i2, i3, i4⟩ := blk5 HV5.out.2.1
          obtain ⟨r0, r1, r2, r3, r4, r5⟩ := blk6 HV5.out.2.2.1
          go_wp2_with fail
          refine (HC _).out.mono ?_
          rintro e w6 ⟨rfl, hb6⟩
          have HV6 := Aside0.mk (HV5.out.below hb6)
          clear i0 i1 i2 i3 i4 r0 r1 r2 r3 r4 r5 hb6 HC
          obtain ⟨r0, r1, r2, r3, r4, r5⟩ := blk6 HV6.out.2.2.1
          by_cases c1 : i.f4 < 0
          · go_wp2
            go_ret
            exact ⟨by simp [isaOk, fldOk, HHC.out]; omega, HV6.out.1⟩
          · by_cases c2 : i.f4 > 0
            · go_wp2
              go_ret
              exact ⟨by simp [isaOk, fldOk, HHC.out]; omega, HV6.out.1⟩
            · go_wp2
              go_roundw
              case rel => exact ⟨4, rfl, by omega, by omega, ⟨HV6.out, by obtain ⟨h1, h2, h3, h4⟩ := HT.out; exact ⟨fun h => by first | exact h1 (by omega) | (simp [fldOk, HHC.out]; omega), fun h => by first | exact h2 (by omega) | (exfalso; omega) | (simp [fldOk, HHC.out]; omega), fun h => by first | exact h3 (by omega) | (exfalso; omega) | (simp [fldOk, HHC.out]; omega), fun h => by first | exact h4 (by omega) | (exfalso; omega) | (simp [fldOk, HHC.out]; omega)⟩⟩⟩
              case measure => simp [intOf]
        | true =>
          have HC := fun W => HH 105 (by omega) W
          rw [hc] at HC
          have HHC := Aside0.mk hc; clear hc
          go_wp2_with fail
          refine (field_i _ _ _ _ _ _ _ HV.out.2.1).mono ?_
          rintro e w5 ⟨rfl, hd5⟩
          have HV5 := Aside0.mk (HV.out.below hd5.below)
          clear i0 i1 i2 i3 i4 r0 r1 r2 r3 r4 r5 s0 s1 s2 s3 hd5
          obtain ⟨i0, i1, i2, i3, i4⟩ := blk5 HV5.out.2.1
          obtain ⟨r0, r1, r2, r3, r4, r5⟩ := blk6 HV5.out.2.2.1
          go_wp2_with fail
          refine (HC _).out.mono ?_
          rintro e w6 ⟨rfl, hb6⟩
          have HV6 := Aside0.mk (HV5.out.below hb6)
          clear i0 i1 i2 i3 i4 r0 r1 r2 r3 r4 r5 hb6 HC
          obtain ⟨r0, r1, r2, r3, r4, r5⟩ := blk6 HV6.out.2.2.1
          go_upto_region 11 with (fail)
          go_region
          all_goals
            by_cases c1 : i.f4 < lo
            · go_wp2
              go_ret
              exact ⟨by simp [isaOk, fldOk, HHC.out]; omega, (HV6.out.below (below_drew (Below.refl _ _))).1⟩
            · by_cases c2 : i.f4 > hi
              · go_wp2
                go_ret
                exact ⟨by simp [isaOk, fldOk, HHC.out]; omega, (HV6.out.below (below_drew (Below.refl _ _))).1⟩
              · go_wp2
                go_roundw
                case rel => exact ⟨4, rfl, by omega, by omega, ⟨HV6.out.below (below_drew (Below.refl _ _)), by obtain ⟨h1, h2, h3, h4⟩ := HT.out; exact ⟨fun h => by first | exact h1 (by omega) | (simp [fldOk, HHC.out]; omega), fun h => by first | exact h2 (by omega) | (exfalso; omega) | (simp [fldOk, HHC.out]; omega), fun h => by first | exact h3 (by omega) | (exfalso; omega) | (simp [fldOk, HHC.out]; omega), fun h => by first | exact h4 (by omega) | (exfalso; omega) | (simp [fldOk, HHC.out]; omega)⟩⟩⟩
                case measure => simp [intOf]
    · have e : j = 4 := by omega
      subst e
      go_wp2
      go_ret
      obtain ⟨h1, h2, h3, h4⟩ := HT.out
      exact ⟨by simp [isaOk, h1, h2, h3, h4], HV.out.1⟩
end Go.Proofs.Ytadaopfcgpfiiaa
namespace Go.Proofs.Ytadaopfcgpfiiaa
open Go.RowKit Go.Proofs.YtadaopfcgpfiiaaW.PrintWords Go.Proofs.YtadaopfcgpfiiaaW.PrintLast Go.Proofs.YtadaopfcgpfiiaaW.PrintMore PCg
set_option linter.unusedVariables false
set_option linter.unusedSimpArgs false
/-- the registers that an opcode has, and its immediate's range (low above high: none) -/
def fmtOf (op : Int) : Option (Nat × Int × Int) :=
  if 2 ≤ op ∧ op ≤ 13 then some (3, 1, 0)
  else if op = 0 ∨ op = 1 then some (0, 1, 0)
  else if op = 14 then some (1, -131072, 131071)
  else if op = 15 ∨ op = 18 ∨ op = 19 ∨ op = 20 ∨ op = 21 then some (2, -131072, 131071)
  else if op = 16 then some (2, 0, 31)
  else if op = 17 then some (2, 0, 16383)
  else if op = 22 ∨ op = 23 then some (1, -131072, 131071)
  else if op = 24 then some (0, -131072, 131071)
  else if op = 25 then some (1, 1, 131071)
  else if op = 26 ∨ op = 27 then some (1, 0, 7)
  else if op = 28 ∨ op = 29 then some (0, 0, 3)
  else none
def regB (used : Bool) (x : Int) : Bool := if used then (decide (0 ≤ x) && decide (x < 16)) else x == 0
/-- an instruction is valid -/
def instrB (i : S53) : Bool :=
  match fmtOf i.f0 with
  | none => false
  | some (n, lo, hi) => regB (decide (0 < n)) i.f1 && regB (decide (1 < n)) i.f2 && regB (decide (2 < n)) i.f3 && (if lo > hi then i.f4 == 0 else (decide (lo ≤ i.f4) && decide (i.f4 ≤ hi)))
abbrev rowZ : ByteArray × ByteArray × Int × Int × ByteArray × ByteArray × Bool := (⟨#[]⟩, ⟨#[]⟩, 0, 0, ⟨#[]⟩, ⟨#[]⟩, false)
theorem of_find (i : S53) (w : World) (r : ByteArray × ByteArray × Int × Int × ByteArray × ByteArray × Bool) (ops : ByteArray) (lo hi : Int) (hb : Int → Bool) (hf : isa_find.f 100 i.f0 = some r) (h1 : r.2.1 = ops) (h2 : r.2.2.1 = lo) (h3 : r.2.2.2.1 = hi) (h4 : r.2.2.2.2.2.2 = true) (hs : ops.size ≤ 1000)
    (hh : ∀ c : Int, c = 97 ∨ c = 98 ∨ c = 99 ∨ c = 105 → slices_Contains_byte_byte.f 100 (bytesL ops) c = some (hb c)) (he : isaOk hb lo hi i = instrB i) :
    Calls Try.prog 36 #[.agg #[.int .u8 i.f0, .int .i64 i.f1, .int .i64 i.f2, .int .i64 i.f3, .int .i64 i.f4]] w fun e w' => e = .returned (.bool (instrB i)) ∧ Below w.heap.size w w' := by
  obtain ⟨nm, ops', lo', hi', rd, ws, ok⟩ := r
  dsimp only at h1 h2 h3 h4
  subst h1 h2 h3 h4
  rw [← he]
  exact isaValid_any i 100 nm ops' lo' hi' rd ws w hb hf hs hh
def hb_none (c : Int) : Bool := false
theorem hh_none : ∀ c : Int, c = 97 ∨ c = 98 ∨ c = 99 ∨ c = 105 → slices_Contains_byte_byte.f 100 (bytesL ⟨#[]⟩) c = some (hb_none c) := by
  intro c hc
  rcases hc with rfl | rfl | rfl | rfl <;> kernel_rfl
theorem ok_none (i : S53) (lo hi : Int) (hf : fmtOf i.f0 = some (0, 1, 0)) : isaOk hb_none lo hi i = instrB i := by
  unfold instrB
  rw [hf]
  rw [Bool.eq_iff_iff]
  simp [isaOk, fldOk, hb_none, regB]
  try (rw [])
  
  omega
def hb_abc (c : Int) : Bool := decide (c = 97) || decide (c = 98) || decide (c = 99)
theorem hh_abc : ∀ c : Int, c = 97 ∨ c = 98 ∨ c = 99 ∨ c = 105 → slices_Contains_byte_byte.f 100 (bytesL ⟨#[97, 98, 99]⟩) c = some (hb_abc c) := by
  intro c hc
  rcases hc with rfl | rfl | rfl | rfl <;> kernel_rfl
theorem ok_abc (i : S53) (lo hi : Int) (hf : fmtOf i.f0 = some (3, 1, 0)) : isaOk hb_abc lo hi i = instrB i := by
  unfold instrB
  rw [hf]
  rw [Bool.eq_iff_iff]
  simp [isaOk, fldOk, hb_abc, regB]
  try (rw [])
  
  omega
def hb_ai (c : Int) : Bool := decide (c = 97) || decide (c = 105)
theorem hh_ai : ∀ c : Int, c = 97 ∨ c = 98 ∨ c = 99 ∨ c = 105 → slices_Contains_byte_byte.f 100 (bytesL ⟨#[97, 105]⟩) c = some (hb_ai c) := by
  intro c hc
  rcases hc with rfl | rfl | rfl | rfl <;> kernel_rfl
theorem ok_ai (i : S53) (lo hi : Int) (hf : fmtOf i.f0 = some (1, lo, hi)) (hlh : lo ≤ hi) : isaOk hb_ai lo hi i = instrB i := by
  unfold instrB
  rw [hf]
  rw [Bool.eq_iff_iff]
  simp [isaOk, fldOk, hb_ai, regB]
  (rw [if_neg (show ¬ hi < lo by omega)])
  try simp only [Bool.and_eq_true, decide_eq_true_eq]
  omega
def hb_abi (c : Int) : Bool := decide (c = 97) || decide (c = 98) || decide (c = 105)
theorem hh_abi : ∀ c : Int, c = 97 ∨ c = 98 ∨ c = 99 ∨ c = 105 → slices_Contains_byte_byte.f 100 (bytesL ⟨#[97, 98, 105]⟩) c = some (hb_abi c) := by
  intro c hc
  rcases hc with rfl | rfl | rfl | rfl <;> kernel_rfl
theorem ok_abi (i : S53) (lo hi : Int) (hf : fmtOf i.f0 = some (2, lo, hi)) (hlh : lo ≤ hi) : isaOk hb_abi lo hi i = instrB i := by
  unfold instrB
  rw [hf]
  rw [Bool.eq_iff_iff]
  simp [isaOk, fldOk, hb_abi, regB]
  (rw [if_neg (show ¬ hi < lo by omega)])
  try simp only [Bool.and_eq_true, decide_eq_true_eq]
  omega
def hb_i (c : Int) : Bool := decide (c = 105)
theorem hh_i : ∀ c : Int, c = 97 ∨ c = 98 ∨ c = 99 ∨ c = 105 → slices_Contains_byte_byte.f 100 (bytesL ⟨#[105]⟩) c = some (hb_i c) := by
  intro c hc
  rcases hc with rfl | rfl | rfl | rfl <;> kernel_rfl
theorem ok_i (i : S53) (lo hi : Int) (hf : fmtOf i.f0 = some (0, lo, hi)) (hlh : lo ≤ hi) : isaOk hb_i lo hi i = instrB i := by
  unfold instrB
  rw [hf]
  rw [Bool.eq_iff_iff]
  simp [isaOk, fldOk, hb_i, regB]
  (rw [if_neg (show ¬ hi < lo by omega)])
  try simp only [Bool.and_eq_true, decide_eq_true_eq]
  omega
theorem find_none (op : Int) (h0 : 30 ≤ op) (h1 : op < 256) : isa_find.f 100 op = some rowZ := by
  have hr : ∃ l, isa_rows.f 100 = some l ∧ l.length = 30 := ⟨(isa_rows.f 100).getD [], by kernel_rfl, by kernel_rfl⟩
  obtain ⟨l, hl, hn⟩ := hr
  unfold isa_find.f
  rw [hl, Option.bind_some, w64 (by omega), if_pos (by omega)]
theorem fmt_none (op : Int) (h0 : 30 ≤ op) : fmtOf op = none := by
  unfold fmtOf
  repeat rw [if_neg (by omega)]
set_option maxRecDepth 100000 in
theorem isaValid_all (i : S53) (w : World) (h0 : 0 ≤ i.f0) (h1 : i.f0 < 256) :
    Calls Try.prog 36 #[.agg #[.int .u8 i.f0, .int .i64 i.f1, .int .i64 i.f2, .int .i64 i.f3, .int .i64 i.f4]] w fun e w' => e = .returned (.bool (instrB i)) ∧ Below w.heap.size w w' := by
  obtain ⟨op, a, b, c, m⟩ := i
  dsimp only at h0 h1
  by_cases h : 30 ≤ op
  · have hn : instrB ⟨op, a, b, c, m⟩ = false := by
      unfold instrB
      rw [fmt_none _ h]
    rw [hn]
    exact isaValid_no ⟨op, a, b, c, m⟩ 100 _ _ _ _ _ _ w (find_none op h h1)
  have hc : op = 0 ∨ op = 1 ∨ op = 2 ∨ op = 3 ∨ op = 4 ∨ op = 5 ∨ op = 6 ∨ op = 7 ∨ op = 8 ∨ op = 9 ∨ op = 10 ∨ op = 11 ∨ op = 12 ∨ op = 13 ∨ op = 14 ∨ op = 15 ∨ op = 16 ∨ op = 17 ∨ op = 18 ∨ op = 19 ∨ op = 20 ∨ op = 21 ∨ op = 22 ∨ op = 23 ∨ op = 24 ∨ op = 25 ∨ op = 26 ∨ op = 27 ∨ op = 28 ∨ op = 29 := by omega
  rcases hc with rfl | rfl | rfl | rfl | rfl | rfl | rfl | rfl | rfl | rfl | rfl | rfl | rfl | rfl | rfl | rfl | rfl | rfl | rfl | rfl | rfl | rfl | rfl | rfl | rfl | rfl | rfl | rfl | rfl | rfl
  · exact of_find _ w ((isa_find.f 100 0).getD rowZ) ⟨#[]⟩ (0) 0 hb_none (by kernel_rfl) (by kernel_rfl) (by kernel_rfl) (by kernel_rfl) (by kernel_rfl) (by decide) hh_none (ok_none _ _ _ (by rfl))
  · exact of_find _ w ((isa_find.f 100 1).getD rowZ) ⟨#[]⟩ (0) 0 hb_none (by kernel_rfl) (by kernel_rfl) (by kernel_rfl) (by kernel_rfl) (by kernel_rfl) (by decide) hh_none (ok_none _ _ _ (by rfl))
  · exact of_find _ w ((isa_find.f 100 2).getD rowZ) ⟨#[97, 98, 99]⟩ (0) 0 hb_abc (by kernel_rfl) (by kernel_rfl) (by kernel_rfl) (by kernel_rfl) (by kernel_rfl) (by decide) hh_abc (ok_abc _ _ _ (by rfl))
  · exact of_find _ w ((isa_find.f 100 3).getD rowZ) ⟨#[97, 98, 99]⟩ (0) 0 hb_abc (by kernel_rfl) (by kernel_rfl) (by kernel_rfl) (by kernel_rfl) (by kernel_rfl) (by decide) hh_abc (ok_abc _ _ _ (by rfl))
  · exact of_find _ w ((isa_find.f 100 4).getD rowZ) ⟨#[97, 98, 99]⟩ (0) 0 hb_abc (by kernel_rfl) (by kernel_rfl) (by kernel_rfl) (by kernel_rfl) (by kernel_rfl) (by decide) hh_abc (ok_abc _ _ _ (by rfl))
  · exact of_find _ w ((isa_find.f 100 5).getD rowZ) ⟨#[97, 98, 99]⟩ (0) 0 hb_abc (by kernel_rfl) (by kernel_rfl) (by kernel_rfl) (by kernel_rfl) (by kernel_rfl) (by decide) hh_abc (ok_abc _ _ _ (by rfl))
  · exact of_find _ w ((isa_find.f 100 6).getD rowZ) ⟨#[97, 98, 99]⟩ (0) 0 hb_abc (by kernel_rfl) (by kernel_rfl) (by kernel_rfl) (by kernel_rfl) (by kernel_rfl) (by decide) hh_abc (ok_abc _ _ _ (by rfl))
  · exact of_find _ w ((isa_find.f 100 7).getD rowZ) ⟨#[97, 98, 99]⟩ (0) 0 hb_abc (by kernel_rfl) (by kernel_rfl) (by kernel_rfl) (by kernel_rfl) (by kernel_rfl) (by decide) hh_abc (ok_abc _ _ _ (by rfl))
  · exact of_find _ w ((isa_find.f 100 8).getD rowZ) ⟨#[97, 98, 99]⟩ (0) 0 hb_abc (by kernel_rfl) (by kernel_rfl) (by kernel_rfl) (by kernel_rfl) (by kernel_rfl) (by decide) hh_abc (ok_abc _ _ _ (by rfl))
  · exact of_find _ w ((isa_find.f 100 9).getD rowZ) ⟨#[97, 98, 99]⟩ (0) 0 hb_abc (by kernel_rfl) (by kernel_rfl) (by kernel_rfl) (by kernel_rfl) (by kernel_rfl) (by decide) hh_abc (ok_abc _ _ _ (by rfl))
  · exact of_find _ w ((isa_find.f 100 10).getD rowZ) ⟨#[97, 98, 99]⟩ (0) 0 hb_abc (by kernel_rfl) (by kernel_rfl) (by kernel_rfl) (by kernel_rfl) (by kernel_rfl) (by decide) hh_abc (ok_abc _ _ _ (by rfl))
  · exact of_find _ w ((isa_find.f 100 11).getD rowZ) ⟨#[97, 98, 99]⟩ (0) 0 hb_abc (by kernel_rfl) (by kernel_rfl) (by kernel_rfl) (by kernel_rfl) (by kernel_rfl) (by decide) hh_abc (ok_abc _ _ _ (by rfl))
  · exact of_find _ w ((isa_find.f 100 12).getD rowZ) ⟨#[97, 98, 99]⟩ (0) 0 hb_abc (by kernel_rfl) (by kernel_rfl) (by kernel_rfl) (by kernel_rfl) (by kernel_rfl) (by decide) hh_abc (ok_abc _ _ _ (by rfl))
  · exact of_find _ w ((isa_find.f 100 13).getD rowZ) ⟨#[97, 98, 99]⟩ (0) 0 hb_abc (by kernel_rfl) (by kernel_rfl) (by kernel_rfl) (by kernel_rfl) (by kernel_rfl) (by decide) hh_abc (ok_abc _ _ _ (by rfl))
  · exact of_find _ w ((isa_find.f 100 14).getD rowZ) ⟨#[97, 105]⟩ (-131072) 131071 hb_ai (by kernel_rfl) (by kernel_rfl) (by kernel_rfl) (by kernel_rfl) (by kernel_rfl) (by decide) hh_ai (ok_ai _ _ _ (by rfl) (by omega))
  · exact of_find _ w ((isa_find.f 100 15).getD rowZ) ⟨#[97, 98, 105]⟩ (-131072) 131071 hb_abi (by kernel_rfl) (by kernel_rfl) (by kernel_rfl) (by kernel_rfl) (by kernel_rfl) (by decide) hh_abi (ok_abi _ _ _ (by rfl) (by omega))
  · exact of_find _ w ((isa_find.f 100 16).getD rowZ) ⟨#[97, 98, 105]⟩ (0) 31 hb_abi (by kernel_rfl) (by kernel_rfl) (by kernel_rfl) (by kernel_rfl) (by kernel_rfl) (by decide) hh_abi (ok_abi _ _ _ (by rfl) (by omega))
  · exact of_find _ w ((isa_find.f 100 17).getD rowZ) ⟨#[97, 98, 105]⟩ (0) 16383 hb_abi (by kernel_rfl) (by kernel_rfl) (by kernel_rfl) (by kernel_rfl) (by kernel_rfl) (by decide) hh_abi (ok_abi _ _ _ (by rfl) (by omega))
  · exact of_find _ w ((isa_find.f 100 18).getD rowZ) ⟨#[97, 98, 105]⟩ (-131072) 131071 hb_abi (by kernel_rfl) (by kernel_rfl) (by kernel_rfl) (by kernel_rfl) (by kernel_rfl) (by decide) hh_abi (ok_abi _ _ _ (by rfl) (by omega))
  · exact of_find _ w ((isa_find.f 100 19).getD rowZ) ⟨#[97, 98, 105]⟩ (-131072) 131071 hb_abi (by kernel_rfl) (by kernel_rfl) (by kernel_rfl) (by kernel_rfl) (by kernel_rfl) (by decide) hh_abi (ok_abi _ _ _ (by rfl) (by omega))
  · exact of_find _ w ((isa_find.f 100 20).getD rowZ) ⟨#[97, 98, 105]⟩ (-131072) 131071 hb_abi (by kernel_rfl) (by kernel_rfl) (by kernel_rfl) (by kernel_rfl) (by kernel_rfl) (by decide) hh_abi (ok_abi _ _ _ (by rfl) (by omega))
  · exact of_find _ w ((isa_find.f 100 21).getD rowZ) ⟨#[97, 98, 105]⟩ (-131072) 131071 hb_abi (by kernel_rfl) (by kernel_rfl) (by kernel_rfl) (by kernel_rfl) (by kernel_rfl) (by decide) hh_abi (ok_abi _ _ _ (by rfl) (by omega))
  · exact of_find _ w ((isa_find.f 100 22).getD rowZ) ⟨#[97, 105]⟩ (-131072) 131071 hb_ai (by kernel_rfl) (by kernel_rfl) (by kernel_rfl) (by kernel_rfl) (by kernel_rfl) (by decide) hh_ai (ok_ai _ _ _ (by rfl) (by omega))
  · exact of_find _ w ((isa_find.f 100 23).getD rowZ) ⟨#[97, 105]⟩ (-131072) 131071 hb_ai (by kernel_rfl) (by kernel_rfl) (by kernel_rfl) (by kernel_rfl) (by kernel_rfl) (by decide) hh_ai (ok_ai _ _ _ (by rfl) (by omega))
  · exact of_find _ w ((isa_find.f 100 24).getD rowZ) ⟨#[105]⟩ (-131072) 131071 hb_i (by kernel_rfl) (by kernel_rfl) (by kernel_rfl) (by kernel_rfl) (by kernel_rfl) (by decide) hh_i (ok_i _ _ _ (by rfl) (by omega))
  · exact of_find _ w ((isa_find.f 100 25).getD rowZ) ⟨#[97, 105]⟩ (1) 131071 hb_ai (by kernel_rfl) (by kernel_rfl) (by kernel_rfl) (by kernel_rfl) (by kernel_rfl) (by decide) hh_ai (ok_ai _ _ _ (by rfl) (by omega))
  · exact of_find _ w ((isa_find.f 100 26).getD rowZ) ⟨#[97, 105]⟩ (0) 7 hb_ai (by kernel_rfl) (by kernel_rfl) (by kernel_rfl) (by kernel_rfl) (by kernel_rfl) (by decide) hh_ai (ok_ai _ _ _ (by rfl) (by omega))
  · exact of_find _ w ((isa_find.f 100 27).getD rowZ) ⟨#[97, 105]⟩ (0) 7 hb_ai (by kernel_rfl) (by kernel_rfl) (by kernel_rfl) (by kernel_rfl) (by kernel_rfl) (by decide) hh_ai (ok_ai _ _ _ (by rfl) (by omega))
  · exact of_find _ w ((isa_find.f 100 28).getD rowZ) ⟨#[105]⟩ (0) 3 hb_i (by kernel_rfl) (by kernel_rfl) (by kernel_rfl) (by kernel_rfl) (by kernel_rfl) (by decide) hh_i (ok_i _ _ _ (by rfl) (by omega))
  · exact of_find _ w ((isa_find.f 100 29).getD rowZ) ⟨#[105]⟩ (0) 3 hb_i (by kernel_rfl) (by kernel_rfl) (by kernel_rfl) (by kernel_rfl) (by kernel_rfl) (by decide) hh_i (ok_i _ _ _ (by rfl) (by omega))
end Go.Proofs.Ytadaopfcgpfiiaa
namespace Go.Proofs.Ytadaopfcgpfiiaa
open Go.RowKit Go.Proofs.YtadaopfcgpfiiaaW.PrintWords Go.Proofs.YtadaopfcgpfiiaaW.PrintLast Go.Proofs.YtadaopfcgpfiiaaW.PrintMore PCg
set_option linter.unusedVariables false
set_option linter.unusedSimpArgs false
/-- does an opcode access a shared object, and its lock -/
def refKind (op : Int) : Option Bool := if op = 20 ∨ op = 21 then some false else if op = 28 ∨ op = 29 then some true else none
def brOk (x : S53) (k n : Int) : Bool := if 22 ≤ x.f0 ∧ x.f0 ≤ 24 then (decide (0 ≤ k + 1 + x.f4) && decide (k + 1 + x.f4 < n)) else true
/-- one instruction: how many references are taken behind it -/
def vStep (n : Int) (refs : List S105) (x : S53) (k : Int) (r : Nat) : Option Nat :=
  if instrB x && brOk x k n then
    match refKind x.f0 with
    | none => some r
    | some l => if r < refs.length ∧ (rd_T105 refs r).f0 = k ∧ (rd_T105 refs r).f2 = l then some (r + 1) else none
  else none
def vTo (code : List S53) (refs : List S105) : Nat → Option Nat
  | 0 => some 0
  | k + 1 => (vTo code refs k).bind (vStep code.length refs (rd_T53 code k) k)
/-- an object is valid -/
def objB (code : List S53) (data : Int) (refs : List S105) : Bool :=
  decide (1 ≤ code.length) && decide (code.length ≤ 4096) && decide (0 ≤ data) && decide (data ≤ 512) && (vTo code refs code.length == some refs.length)
theorem reference_f (op : Int) : codegen_reference.f 10 op = some ((refKind op).isSome, (refKind op).getD false) := by
  by_cases h1 : op = 20
  · subst h1; rfl
  by_cases h2 : op = 21
  · subst h2; rfl
  by_cases h3 : op = 28
  · subst h3; rfl
  by_cases h4 : op = 29
  · subst h4; rfl
  have h5 : (op == 21) = false := beq_eq_false_iff_ne.2 h2
  have h6 : refKind op = none := by unfold refKind; rw [if_neg (by omega), if_neg (by omega)]
  rw [h6]
  unfold codegen_reference.f
  rw [if_neg h1, h5]
  simp [codegen_reference.j0, h3, h4]
theorem target_f (x : S53) (k : Int) (h0 : 0 ≤ k) (h1 : k ≤ 1000000) (h2 : -1000000 ≤ x.f4) (h3 : x.f4 ≤ 1000000) : isa_Target.f x.f0 x.f1 x.f2 x.f3 x.f4 k = some (if 22 ≤ x.f0 ∧ x.f0 ≤ 24 then (k + 1 + x.f4, true) else (0, false)) := by
  unfold isa_Target.f isa_IsBranch.f
  rw [w64 (n := k + 1) (by omega), w64 (n := k + 1 + x.f4) (by omega)]
  by_cases h : x.f0 ≥ 22
  · by_cases h4 : x.f0 ≤ 24
    · simp [h, h4]
    · simp [h, h4]
  · have : ¬ (22 ≤ x.f0) := h
    simp [this]
theorem vTo_none {code : List S53} {refs : List S105} {k : Nat} (h : vTo code refs k = none) : ∀ d, vTo code refs (k + d) = none := by
  intro d
  induction d with
  | zero => exact h
  | succ d ih => rw [← Nat.add_assoc, vTo, ih]; rfl
theorem objB_no {code : List S53} {data : Int} {refs : List S105} {k : Nat} (hk : k < code.length) (h : vTo code refs (k + 1) = none) : objB code data refs = false := by
  have h2 := vTo_none h (code.length - (k + 1))
  rw [show k + 1 + (code.length - (k + 1)) = code.length by omega] at h2
  unfold objB
  rw [h2]
  simp
theorem instrB_imm {x : S53} (h : instrB x = true) : -1000000 ≤ x.f4 ∧ x.f4 ≤ 1000000 := by
  unfold instrB at h
  cases hf : fmtOf x.f0 with
  | none => rw [hf] at h; cases h
  | some p =>
    obtain ⟨n, lo, hi⟩ := p
    rw [hf] at h
    have hb : -1000000 ≤ lo ∧ hi ≤ 1000000 := by
      unfold fmtOf at hf
      repeat' split at hf
      all_goals first | (cases hf; done) | (cases hf; constructor <;> decide)
    simp only [Bool.and_eq_true] at h
    obtain ⟨_, h⟩ := h
    split at h
    · have := beq_iff_eq.1 h; omega
    · simp only [Bool.and_eq_true, decide_eq_true_eq] at h; omega
theorem cut_refs (A : Option Addr) (n c : Nat) (hn : 1 ≤ n) : ∃ A' : Option Addr, (∀ W : World, (Instr.slice 29 (.slice A n c) (some (.int .i64 1)) none none).run Try.prog W = .ok (.slice A' (n - 1) (c - 1)) W) ∧
    ∀ (w : World) (xs : List S105), xs.length = n → n ≤ c → Kd.C k105 w A n xs → Kd.C k105 w A' (n - 1) (xs.drop 1) := by
  have hi : ∃ i, Try.prog.info? 105 = some i ∧ i.size = 3 := ⟨(Try.prog.info? 105).get (by kernel_rfl), by kernel_rfl, by kernel_rfl⟩
  obtain ⟨i, hi, hsz⟩ := hi
  have ht : Try.prog.underlying 29 = some (.slice 105) := by kernel_rfl
  refine ⟨if c = 1 then A else A.map (·.add (1 * 3)), fun W => ?_, fun w xs hl hc h => ?_⟩
  · have hel : Try.prog.elem 29 = 105 := by simp [Program.elem, ht]
    have hu : Try.prog.underlying 29 = some (.slice (Try.prog.elem 29)) := by rw [hel]; exact ht
    have h := run_slice_l W 29 A n c hu .i64 ((1 : Nat) : Int) (Int.natCast_nonneg _) (by omega)
    rw [hel] at h
    refine h.trans ?_
    simp [sizeOf, typeInfo, hi, hsz, sliced, Result.andThen]
  · have h2 := Kd.C_drop (m := 1) (c := c) (hl ▸ h) (by omega) (by omega)
    rw [List.length_drop, hl] at h2
    exact h2
/-- the loop of Valid -/
def VSt (w : World) (code : List S53) (refs : List S105) (bo : Nat) (o : Obj) (k : Int) (rs : List S105) (A : Option Addr) (c : Nat) (W : World) : Prop :=
  Below w.heap.size w W ∧ W.heap[bo]? = some o ∧ Kd.C k105 w A rs.length rs ∧ rs.length ≤ c ∧ ∃ r, vTo code refs k.toNat = some r ∧ r ≤ refs.length ∧ rs = refs.drop r
set_option maxRecDepth 100000 in
set_option maxHeartbeats 2000000 in
theorem cgValid_any (nm : ByteArray) (A : Option Addr) (c : Nat) (code : List S53) (data : Int) (A2 : Option Addr) (c2 : Nat) (refs : List S105) (w : World)
    (hr : Kd.C k53 w A code.length code) (hcp : code.length ≤ c) (hr2 : Kd.C k105 w A2 refs.length refs) (hcp2 : refs.length ≤ c2) (hm : code.length ≤ 1000000) (hm2 : refs.length ≤ 1000000) (hop : ∀ x ∈ code, 0 ≤ x.f0 ∧ x.f0 < 256) :
    Calls Try.prog 14 #[.agg #[.string nm, .slice A code.length c, .int .i64 data, .slice A2 refs.length c2]] w fun e w' => e = .returned (.bool (objB code data refs)) ∧ Below w.heap.size w w' := by
  have HR := Aside0.mk hr; have HR2 := Aside0.mk hr2; have HOP := Aside0.mk hop
  clear hr hr2 hop
  have hu := Try.underlying53
  have hu2 := Try.underlying31
  have hu3 := Try.underlying105
  have HB1 := Aside0.mk (below_alloc (Below.refl w.heap.size w) (.cells #[.string nm, .slice A code.length c, .int .i64 data, .slice A2 refs.length c2] 31))
  have HO1 : Aside0 (_ = _) := Aside0.mk (blk_new w (.cells #[.string nm, .slice A code.length c, .int .i64 data, .slice A2 refs.length c2] 31))
  obtain ⟨o0, o1, o2, o3⟩ := blk4 HO1.out
  by_cases b1 : (1 : Int) ≤ code.length ∧ (code.length : Int) ≤ 4096 ∧ 0 ≤ data ∧ data ≤ 512
  · obtain ⟨b1, b2, b3, b4⟩ := b1
    have d1 : ((code.length : Int) < 1) = False := eq_false (by omega)
    have d2 : ((code.length : Int) > 4096) = False := eq_false (by omega)
    have d3 : (data < 0) = False := eq_false (by omega)
    have d4 : (data > 512) = False := eq_false (by omega)
    go_enter Try.func14, Try.ntmps14
    go_wp2_with fail
    obtain ⟨W1, hW1⟩ : ∃ W1, w.alloc (.cells #[.string nm, .slice A code.length c, .int .i64 data, .slice A2 refs.length c2] 31) = W1 := ⟨_, rfl⟩
    rw [hW1] at HB1 HO1
    rw [hW1]
    clear o0 o1 o2 o3 hW1
    go_loopw [3, 35] (fun v j W => ∃ k : Int, j = .int .i64 k ∧ 0 ≤ k ∧ k ≤ code.length ∧ ∃ rs Ar cr, v = .slice Ar rs.length cr ∧ Aside0 (VSt w code refs w.heap.size (.cells #[.string nm, .slice A code.length c, .int .i64 data, .slice A2 refs.length c2] 31) k rs Ar cr W)) (fun v j W => code.length - (intOf j).toNat)
    case atStart => exact ⟨0, rfl, Int.le_refl _, by omega, refs, A2, c2, rfl, ⟨HB1.out, HO1.out, HR2.out, hcp2, 0, rfl, Nat.zero_le _, rfl⟩⟩
    case round =>
      obtain ⟨k, rfl, hk0, hk, rs, Ar, cr, rfl, hV⟩ := hrel
      have HV := hV
      clear hV
      by_cases hlt : k < code.length
      · have p1 := eq_true hk0
        have q1 := eq_true hlt
        obtain ⟨ad, hA, x0, x1, x2, x3, x4⟩ := at_T53 (Kd.C_below HR.out HV.out.1) k hk0 hlt
        cases hA
        obtain ⟨r, hvt, hrl, hrs⟩ := HV.out.2.2.2.2
        have hxo := HOP.out (rd_T53 code k) (mem_rd (z := z53) hk0 hlt)
        obtain ⟨kn, hkn⟩ : ∃ kn : Nat, k.toNat = kn := ⟨_, rfl⟩
        have hkk : (kn : Int) = k := by omega
        have hst : vTo code refs (kn + 1) = vStep code.length refs (rd_T53 code k) k r := by
          rw [vTo, ← hkn, hvt, hkn, hkk]; rfl
        obtain ⟨x, hx⟩ : ∃ x, rd_T53 code k = x := ⟨_, rfl⟩
        rw [hx] at x0 x1 x2 x3 x4 hxo hst
        have HST := Aside0.mk hst; have HXO := Aside0.mk hxo; have HRS := Aside0.mk hrs; have HRL := Aside0.mk hrl
        have HKN := Aside0.mk hkn
        have hkl : kn < code.length := by omega
        have HNO : Aside0 (vStep code.length refs x k r = none → objB code data refs = false) := ⟨fun h => objB_no hkl (hst.trans h)⟩
        clear hvt hrl hrs hxo hst hx hkn
        go_wp2_with fail
        have hbx := below_alloc (Below.refl wr.heap.size wr) (.cells #[.int .u8 x.f0, .int .i64 x.f1, .int .i64 x.f2, .int .i64 x.f3, .int .i64 x.f4] 53)
        have hnx := blk_new wr (.cells #[.int .u8 x.f0, .int .i64 x.f1, .int .i64 x.f2, .int .i64 x.f3, .int .i64 x.f4] 53)
        refine (isaValid_all x _ HXO.out.1 HXO.out.2).mono ?_
        rintro e w5 ⟨rfl, hb5⟩
        have HB5 := Aside0.mk (below_step hbx hb5)
        have HX5 := Aside0.mk (blk_below hnx hb5)
        clear hbx hnx hb5 x0 x1 x2 x3 x4
        have HO5 := Aside0.mk (blk_below HV.out.2.1 HB5.out)
        have HW5 := Aside0.mk (below_step HV.out.1 HB5.out)
        cases hib : instrB x with
        | false =>
          have HN := Aside0.mk (HNO.out (by simp [vStep, hib]))
          clear hib
          go_wp2_with fail
          go_ret
          exact ⟨congrArg (fun b => Ending.returned (Value.bool b)) HN.out.symm, HW5.out⟩
        | true =>
          have HIM := Aside0.mk (instrB_imm hib)
          have HIB := Aside0.mk hib; clear hib
          obtain ⟨x0, x1, x2, x3, x4⟩ := blk5 HX5.out
          have HRF := fun W => Aside0.mk (codegen_reference.calls 10 x.f0 _ _ W (reference_f x.f0))
          by_cases hbr : 22 ≤ x.f0 ∧ x.f0 ≤ 24
          · have HTG := fun W => Aside0.mk (isa_Target.calls x.f0 x.f1 x.f2 x.f3 x.f4 k (k + 1 + x.f4) true W (by rw [target_f x k hk0 (by omega) HIM.out.1 HIM.out.2, if_pos hbr]))
            have hrk : refKind x.f0 = none := by unfold refKind; rw [if_neg (by omega), if_neg (by omega)]
            rw [hrk] at HRF
            have HBR := Aside0.mk hbr; have HRK := Aside0.mk hrk; clear hbr hrk
            obtain ⟨t, ht⟩ : ∃ t, k + 1 + x.f4 = t := ⟨_, rfl⟩
            rw [ht] at HTG
            have HT := Aside0.mk ht; clear ht
            go_wp2_with fail
            refine (HTG _).out.mono ?_
            rintro e w6 ⟨rfl, hb6⟩
            have HW6 := Aside0.mk (below_step HW5.out hb6)
            have HO6 := Aside0.mk (blk_below HO5.out hb6)
            have HX6 := Aside0.mk (blk_below HX5.out hb6)
            clear hb6 HTG x0 x1 x2 x3 x4
            obtain ⟨x0, x1, x2, x3, x4⟩ := blk5 HX6.out
            obtain ⟨o0, o1, o2, o3⟩ := blk4 HO6.out
            by_cases ht0 : t < 0
            · have HN := Aside0.mk (HNO.out (by
                have h : brOk x k code.length = false := by unfold brOk; rw [if_pos HBR.out, HT.out]; simp; omega
                simp [vStep, h]))
              go_wp2_with fail
              go_ret
              exact ⟨congrArg (fun b => Ending.returned (Value.bool b)) HN.out.symm, HW6.out⟩
            · by_cases ht1 : t ≥ code.length
              · have HN := Aside0.mk (HNO.out (by
                  have h : brOk x k code.length = false := by unfold brOk; rw [if_pos HBR.out, HT.out]; simp; omega
                  simp [vStep, h]))
                go_wp2_with fail
                go_ret
                exact ⟨congrArg (fun b => Ending.returned (Value.bool b)) HN.out.symm, HW6.out⟩
              · have HS := Aside0.mk (show vStep code.length refs x k r = some r from by
                  have h : brOk x k code.length = true := by unfold brOk; rw [if_pos HBR.out, HT.out]; simp; omega
                  simp [vStep, h, HIB.out, HRK.out])
                go_wp2_with fail
                refine (HRF _).out.mono ?_
                rintro e w7 ⟨rfl, hd7⟩
                have HW7 := Aside0.mk (below_step HW6.out hd7.below)
                have HO7 := Aside0.mk (blk_below HO6.out hd7.below)
                clear hd7 HRF x0 x1 x2 x3 x4 o0 o1 o2 o3
                go_wp2
                go_roundw
                case rel => exact ⟨k + 1, rfl, by omega, by omega, rs, Ar, cr, rfl, ⟨HW7.out, HO7.out, HV.out.2.2.1, HV.out.2.2.2.1, r, by rw [show (k + 1).toNat = kn + 1 by omega]; exact HST.out.trans HS.out, HRL.out, HRS.out⟩⟩
                case measure => simp [intOf]; omega
          · have HTG := fun W => Aside0.mk (isa_Target.calls x.f0 x.f1 x.f2 x.f3 x.f4 k 0 false W (by rw [target_f x k hk0 (by omega) HIM.out.1 HIM.out.2, if_neg hbr]))
            have HBR := Aside0.mk (show brOk x k code.length = true from by unfold brOk; rw [if_neg hbr])
            clear hbr
            go_wp2_with fail
            refine (HTG _).out.mono ?_
            rintro e w6 ⟨rfl, hb6⟩
            have HW6 := Aside0.mk (below_step HW5.out hb6)
            have HO6 := Aside0.mk (blk_below HO5.out hb6)
            have HX6 := Aside0.mk (blk_below HX5.out hb6)
            clear hb6 HTG x0 x1 x2 x3 x4
            obtain ⟨x0, x1, x2, x3, x4⟩ := blk5 HX6.out
            go_wp2_with fail
            refine (HRF _).out.mono ?_
            rintro e w7 ⟨rfl, hd7⟩
            have HW7 := Aside0.mk (below_step HW6.out hd7.below)
            have HO7 := Aside0.mk (blk_below HO6.out hd7.below)
            clear hd7 HRF x0 x1 x2 x3 x4
            cases hrk : refKind x.f0 with
            | none =>
              have HS := Aside0.mk (show vStep code.length refs x k r = some r from by simp [vStep, HBR.out, HIB.out, hrk])
              clear hrk
              simp only [Option.isSome_none, Option.getD_none]
              go_wp2
              go_roundw
              case rel => exact ⟨k + 1, rfl, by omega, by omega, rs, Ar, cr, rfl, ⟨HW7.out, HO7.out, HV.out.2.2.1, HV.out.2.2.2.1, r, by rw [show (k + 1).toNat = kn + 1 by omega]; exact HST.out.trans HS.out, HRL.out, HRS.out⟩⟩
              case measure => simp [intOf]; omega
            | some l =>
              simp only [Option.isSome_some, Option.getD_some]
              have HRK := Aside0.mk hrk; clear hrk
              by_cases hl0 : rs.length = 0
              · have HN := Aside0.mk (HNO.out (by
                  have h1 : ¬ r < refs.length := by
                    have h2 := HRS.out
                    have h3 : rs.length = refs.length - r := by rw [h2, List.length_drop]
                    omega
                  simp [vStep, HBR.out, HIB.out, HRK.out, h1]))
                go_wp2_with fail
                go_ret
                exact ⟨congrArg (fun b => Ending.returned (Value.bool b)) HN.out.symm, HW7.out⟩
              · have hrn : r < refs.length := by
                  have h2 := HRS.out
                  have h3 : rs.length = refs.length - r := by rw [h2, List.length_drop]
                  omega
                have h0e : rd_T105 rs 0 = rd_T105 refs r := by
                  rw [HRS.out]
                  simp [rd_T105, List.getD_eq_getElem?_getD, List.getElem?_drop]
                obtain ⟨ad2, hA2, y0, y1, y2⟩ := at_T105 (Kd.C_below HV.out.2.2.1 HW7.out) 0 (by omega) (by omega)
                obtain ⟨A', hcut, hcutC⟩ := cut_refs Ar rs.length cr (by omega)
                have HCC := Aside0.mk (hcutC w rs rfl HV.out.2.2.2.1 HV.out.2.2.1)
                have hcr := HV.out.2.2.2.1
                cases hA2
                obtain ⟨a0, ha0⟩ : ∃ a0, (rd_T105 rs 0).f0 = a0 := ⟨_, rfl⟩
                obtain ⟨b0, hb0⟩ : ∃ b0, (rd_T105 rs 0).f2 = b0 := ⟨_, rfl⟩
                rw [ha0] at y0
                rw [hb0] at y2
                have HS : Aside0 (vStep code.length refs x k r = if a0 = k ∧ b0 = l then some (r + 1) else none) := ⟨by
                  rw [← ha0, ← hb0, h0e]
                  simp [vStep, HBR.out, HIB.out, HRK.out, hrn]⟩
                have pr : (0 : Int) < rs.length := by omega
                have PR := eq_true pr
                have hne : ((rs.length : Int) == 0) = false := beq_eq_false_iff_ne.2 (by omega)
                have HRN := Aside0.mk hrn
                clear hcutC h0e ha0 hb0 hrn pr
                have e0 : (ad2.add ((0 : Int).toNat * 3)) = ad2 := by simp [Addr.add]
                rw [e0] at y0 y1 y2
                by_cases hak : a0 = k
                · cases l with
                  | false =>
                    cases b0 with
                    | false =>
                      have HG := Aside0.mk (HS.out.trans (if_pos ⟨hak, rfl⟩))
                      go_wp2_with fail
                      refine ⟨⟨k + 1, rfl, by omega, by omega, rs.drop 1, A', cr - 1, by rw [List.length_drop], ⟨HW7.out, HO7.out, by rw [List.length_drop]; exact HCC.out, by rw [List.length_drop]; omega, r + 1, by rw [show (k + 1).toNat = kn + 1 by omega]; exact HST.out.trans HG.out, HRN.out, by rw [HRS.out, List.drop_drop]⟩⟩, ?_⟩
                      simp [intOf]; omega
                    | true =>
                      have HN := Aside0.mk (HNO.out (by rw [HS.out, if_neg (fun h => Bool.noConfusion h.2)]))
                      go_wp2_with fail
                      go_ret
                      exact ⟨congrArg (fun b => Ending.returned (Value.bool b)) HN.out.symm, HW7.out⟩
                  | true =>
                    cases b0 with
                    | false =>
                      have HN := Aside0.mk (HNO.out (by rw [HS.out, if_neg (fun h => Bool.noConfusion h.2)]))
                      go_wp2_with fail
                      go_ret
                      exact ⟨congrArg (fun b => Ending.returned (Value.bool b)) HN.out.symm, HW7.out⟩
                    | true =>
                      have HG := Aside0.mk (HS.out.trans (if_pos ⟨hak, rfl⟩))
                      go_wp2_with fail
                      refine ⟨⟨k + 1, rfl, by omega, by omega, rs.drop 1, A', cr - 1, by rw [List.length_drop], ⟨HW7.out, HO7.out, by rw [List.length_drop]; exact HCC.out, by rw [List.length_drop]; omega, r + 1, by rw [show (k + 1).toNat = kn + 1 by omega]; exact HST.out.trans HG.out, HRN.out, by rw [HRS.out, List.drop_drop]⟩⟩, ?_⟩
                      simp [intOf]; omega
                · have HN := Aside0.mk (HNO.out (by rw [HS.out, if_neg (fun h => hak h.1)]))
                  go_wp2_with fail
                  go_ret
                  exact ⟨congrArg (fun b => Ending.returned (Value.bool b)) HN.out.symm, HW7.out⟩
      · obtain ⟨r, hvt, hrl, hrs⟩ := HV.out.2.2.2.2
        have hke : k.toNat = code.length := by omega
        rw [hke] at hvt
        have HE : Aside0 (((rs.length : Int) == 0) = objB code data refs) := ⟨by
          unfold objB
          rw [hvt]
          have h1 : rs.length = refs.length - r := by rw [hrs, List.length_drop]
          by_cases hr : r = refs.length
          · have h0 : rs.length = 0 := by omega
            simp [h0, hr]
            omega
          · have h0 : rs.length ≠ 0 := by omega
            have h5 : ((rs.length : Int) == 0) = false := beq_eq_false_iff_ne.2 (by omega)
            have h6 : ((some r : Option Nat) == some refs.length) = false := beq_eq_false_iff_ne.2 (fun h => hr (Option.some.inj h))
            rw [h5, h6, Bool.and_false]⟩
        clear hvt hrl hrs hke
        go_wp2_with fail
        go_ret
        exact ⟨congrArg (fun b => Ending.returned (Value.bool b)) HE.out, HV.out.1⟩
  · have HN : Aside0 (objB code data refs = false) := ⟨by
      unfold objB
      rw [Bool.eq_false_iff]
      intro h
      simp only [Bool.and_eq_true, decide_eq_true_eq] at h
      omega⟩
    by_cases d1 : (code.length : Int) < 1
    · go_enter Try.func14, Try.ntmps14
      go_wp2_with fail
      go_ret
      exact ⟨congrArg (fun b => Ending.returned (Value.bool b)) HN.out.symm, HB1.out⟩
    · by_cases d2 : (code.length : Int) > 4096
      · go_enter Try.func14, Try.ntmps14
        go_wp2_with fail
        go_ret
        exact ⟨congrArg (fun b => Ending.returned (Value.bool b)) HN.out.symm, HB1.out⟩
      · by_cases d3 : data < 0
        · go_enter Try.func14, Try.ntmps14
          go_wp2_with fail
          go_ret
          exact ⟨congrArg (fun b => Ending.returned (Value.bool b)) HN.out.symm, HB1.out⟩
        · have d4 : data > 512 := by omega
          go_enter Try.func14, Try.ntmps14
          go_wp2_with fail
          go_ret
          exact ⟨congrArg (fun b => Ending.returned (Value.bool b)) HN.out.symm, HB1.out⟩
end Go.Proofs.Ytadaopfcgpfiiaa
