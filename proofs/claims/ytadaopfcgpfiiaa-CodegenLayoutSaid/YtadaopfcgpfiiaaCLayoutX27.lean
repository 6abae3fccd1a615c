/- Lemmas, part 27: what the theorem of the last text needs, joined by a program out of the seat's texts L1, L2, L3, L5, N0, N1, P0, M1, Q1. -/
import Derived.Test.YtadaopfcgpfiiaaCLayoutX25
import Derived.Test.YtadaopfcgpfiiaaCLayoutX21
import Derived.Test.YtadaopfcgpfiiaaCLayoutX11
import Derived.Test.YtadaopfcgpfiiaaCLayoutX12
import Derived.Test.YtadaopfcgpfiiaaCLayoutX19
import Derived.Deep.RegionHeld3
import Derived.Test.YtadaopfcgpfiiaaCLayoutX26
namespace Go.Proofs.Ytadaopfcgpfiiaa
open Go.RowKit Go.Proofs.YtadaopfcgpfiiaaW.PrintWords Go.Proofs.YtadaopfcgpfiiaaW.PrintLast Go.Proofs.YtadaopfcgpfiiaaW.PrintMore PCg
set_option linter.unusedVariables false
set_option linter.unusedSimpArgs false
/-- one operand is in its range -/
def fldOk (hb : Int → Bool) (lo hi c x : Int) : Bool :=
  if hb c = true then (if c = 105 then (decide (lo ≤ x) && decide (x ≤ hi)) else (decide (0 ≤ x) && decide (x ≤ 15))) else (decide (0 ≤ x) && decide (x ≤ 0))
def isaOk (hb : Int → Bool) (lo hi : Int) (i : S53) : Bool := fldOk hb lo hi 97 i.f1 && fldOk hb lo hi 98 i.f2 && fldOk hb lo hi 99 i.f3 && fldOk hb lo hi 105 i.f4
def isaTo (hb : Int → Bool) (lo hi : Int) (i : S53) (k : Int) : Prop :=
  (0 < k → fldOk hb lo hi 97 i.f1 = true) ∧ (1 < k → fldOk hb lo hi 98 i.f2 = true) ∧ (2 < k → fldOk hb lo hi 99 i.f3 = true) ∧ (3 < k → fldOk hb lo hi 105 i.f4 = true)
set_option maxRecDepth 100000 in
theorem isaValid_no (i : S53) (k : Nat) (nm ops : ByteArray) (lo hi : Int) (rd ws : ByteArray) (w : World) (hf : isa_find.f k i.f0 = some (nm, ops, lo, hi, rd, ws, false)) :
    Calls Try.prog 36 #[.agg #[.int .u8 i.f0, .int .i64 i.f1, .int .i64 i.f2, .int .i64 i.f3, .int .i64 i.f4]] w fun e w' => e = .returned (.bool false) ∧ Below w.heap.size w w' := by
  have hu := Try.underlying53
  have hu2 := Try.underlying108
  have HF := fun (W : World) => Aside0.mk (isa_find.calls k i.f0 nm ops lo hi rd ws false W hf)
  have HB1 := Aside0.mk (below_alloc (Below.refl w.heap.size w) (.cells #[.int .u8 i.f0, .int .i64 i.f1, .int .i64 i.f2, .int .i64 i.f3, .int .i64 i.f4] 53))
  clear hf
  go_enter Try.func36, Try.ntmps36
  go_wp2_with fail
  refine (HF _).out.mono ?_
  rintro e w2 ⟨rfl, hd⟩
  have HB2 := Aside0.mk (below_step HB1.out hd)
  clear hd HF
  go_wp2_with fail
  go_ret
  exact ⟨rfl, below_alloc HB2.out _⟩
theorem bytes_same (w : World) (C : Array Value) (h4 : C.size = 4) : (convert 112 112 (.slice (some ⟨w.heap.size, 0, none⟩) 4 4)).run Try.prog (w.alloc (.cells C 5)) = .ok (.slice (some ⟨w.heap.size, 0, none⟩) 4 4) (w.alloc (.cells C 5 (4, 5))) := by
  have hd : Try.prog.underlying 112 = some (.slice 5) := by kernel_rfl
  have he : Try.prog.underlying 5 = some (.int .u8) := by kernel_rfl
  have hsh : (w.alloc (.cells C 5)).shape? w.heap.size = some (5, 4) := by
    have : (w.alloc (.cells C 5)).heap[w.heap.size]? = some (.cells C 5) := by
      show (w.heap.push (.cells C 5))[w.heap.size]? = _
      simp
    unfold World.shape?
    rw [this]
    simp [h4]
  have hfr : (w.alloc (.cells C 5)).freeze ⟨w.heap.size, 4, none⟩ 1 = w.alloc (.cells C 5 (4, 5)) := by
    have hm : ∀ (a : Array Obj) (x : Obj) (f : Obj → Obj), (a.push x).modify a.size f = a.push (f x) := by
      intro a x f
      apply Array.ext
      · simp
      · intro i h1 h2
        simp only [Array.getElem_modify, Array.getElem_push]
        by_cases h : a.size = i
        · subst h
          simp
        · have hi : i < a.size := by simp at h1; omega
          simp [h, hi]
    unfold World.freeze
    rw [if_neg (by decide)]
    show ({ w.alloc (.cells C 5) with heap := (w.heap.push (.cells C 5)).modify w.heap.size _ } : World) = _
    rw [hm]
    rfl
  simp [convert, run_underlying hd, run_underlying he, markStringish, hsh]
  exact hfr
theorem blk4f {w : World} {b t p q : Nat} {v0 v1 v2 v3 : Value} (h : w.heap[b]? = some (.cells #[v0, v1, v2, v3] t (p, q))) : w.cell? ⟨b, 0, none⟩ = some v0 ∧ w.cell? ⟨b, 1, none⟩ = some v1 ∧ w.cell? ⟨b, 2, none⟩ = some v2 ∧ w.cell? ⟨b, 3, none⟩ = some v3 := by
  unfold World.cell?
  dsimp only
  rw [h]
  exact ⟨rfl, rfl, rfl, rfl⟩
/-- what stands in memory in Valid's rounds -/
def VMem (i : S53) (nm ops : ByteArray) (lo hi : Int) (rd ws : ByteArray) (w : World) (bi br bs : Nat) (W : World) : Prop :=
  Below w.heap.size w W ∧ W.heap[bi]? = some (.cells #[.int .u8 i.f0, .int .i64 i.f1, .int .i64 i.f2, .int .i64 i.f3, .int .i64 i.f4] 53 (0, 0)) ∧ W.heap[br]? = some (.cells #[.string nm, .string ops, .int .i64 lo, .int .i64 hi, .string rd, .string ws] 108 (0, 0)) ∧
  W.heap[bs]? = some (.cells #[.int .u8 97, .int .u8 98, .int .u8 99, .int .u8 105] 5 (4, 5))
theorem VMem.below {i : S53} {nm ops : ByteArray} {lo hi : Int} {rd ws : ByteArray} {w : World} {bi br bs : Nat} {W W1 : World} (h : VMem i nm ops lo hi rd ws w bi br bs W) (hb : Below W.heap.size W W1) : VMem i nm ops lo hi rd ws w bi br bs W1 :=
  ⟨below_step h.1 hb, blk_below h.2.1 hb, blk_below h.2.2.1 hb, (hb.block bs (Array.getElem?_eq_some_iff.1 h.2.2.2).1).trans h.2.2.2⟩
set_option maxRecDepth 100000 in
set_option maxHeartbeats 2000000 in
theorem isaValid_any (i : S53) (k : Nat) (nm ops : ByteArray) (lo hi : Int) (rd ws : ByteArray) (w : World) (hb : Int → Bool) (hf : isa_find.f k i.f0 = some (nm, ops, lo, hi, rd, ws, true)) (hs : ops.size ≤ 1000)
    (hh : ∀ c : Int, c = 97 ∨ c = 98 ∨ c = 99 ∨ c = 105 → slices_Contains_byte_byte.f k (bytesL ops) c = some (hb c)) :
    Calls Try.prog 36 #[.agg #[.int .u8 i.f0, .int .i64 i.f1, .int .i64 i.f2, .int .i64 i.f3, .int .i64 i.f4]] w fun e w' => e = .returned (.bool (isaOk hb lo hi i)) ∧ Below w.heap.size w w' := by
  have hu := Try.underlying53
  have hu2 := Try.underlying108
  have HF := fun (W : World) => Aside0.mk (isa_find.calls k i.f0 nm ops lo hi rd ws true W hf)
  have HH := fun (c : Int) (hc : c = 97 ∨ c = 98 ∨ c = 99 ∨ c = 105) (W : World) => Aside0.mk (isaHas_any ops c k (hb c) W hs (hh c hc))
  clear hf hh
  go_enter Try.func36, Try.ntmps36
  go_wp2_with fail
  refine (HF _).out.mono ?_
  rintro e w2 ⟨rfl, hd⟩
  obtain ⟨W4, hW4⟩ : ∃ W4, (w2.alloc (.cells #[.string nm, .string ops, .int .i64 lo, .int .i64 hi, .string rd, .string ws] 108)).alloc (.cells #[.int .u8 97, .int .u8 98, .int .u8 99, .int .u8 105] 5 (4, 5)) = W4 := ⟨_, rfl⟩
  have HM : Aside0 (VMem i nm ops lo hi rd ws w w.heap.size w2.heap.size (w2.heap.size + 1) W4) := ⟨by
    have hb1 := below_alloc (Below.refl w.heap.size w) (.cells #[.int .u8 i.f0, .int .i64 i.f1, .int .i64 i.f2, .int .i64 i.f3, .int .i64 i.f4] 53)
    have hbi := blk_below (blk_new w (.cells #[.int .u8 i.f0, .int .i64 i.f1, .int .i64 i.f2, .int .i64 i.f3, .int .i64 i.f4] 53)) hd
    rw [← hW4]
    exact ⟨below_alloc (below_alloc (below_step hb1 hd) _) _, blk_alloc (blk_alloc hbi _) _, blk_alloc (blk_new _ _) _, heap_alloc_at _ _ _ (by simp)⟩⟩
  have hsm := bytes_same (w2.alloc (.cells #[.string nm, .string ops, .int .i64 lo, .int .i64 hi, .string rd, .string ws] 108)) #[.int .u8 97, .int .u8 98, .int .u8 99, .int .u8 105] rfl
  rw [World.size_alloc] at hsm
  clear hd HF
  go_wp2_with fail
  obtain ⟨br, hbr⟩ : ∃ br, w2.heap.size = br := ⟨_, rfl⟩
  rw [hbr] at HM
  rw [hbr]
  clear hW4 hsm hbr
  go_loopw [21] (fun j W => ∃ k : Int, j = .int .i64 k ∧ 0 ≤ k ∧ k ≤ 4 ∧ Aside0 (VMem i nm ops lo hi rd ws w w.heap.size br (br + 1) W ∧ isaTo hb lo hi i k)) (fun j W => 4 - (intOf j).toNat)
  case atStart => exact ⟨0, rfl, Int.le_refl _, by omega, ⟨HM.out, ⟨fun h => by omega, fun h => by omega, fun h => by omega, fun h => by omega⟩⟩⟩
  case round =>
    obtain ⟨j, rfl, hj0, hj4, hR⟩ := hrel
    obtain ⟨hV, hT⟩ := hR
    have HV := Aside0.mk hV; have HT := Aside0.mk hT
    obtain ⟨i0, i1, i2, i3, i4⟩ := blk5 hV.2.1
    obtain ⟨r0, r1, r2, r3, r4, r5⟩ := blk6 hV.2.2.1
    obtain ⟨s0, s1, s2, s3⟩ := blk4f hV.2.2.2
    clear hV hT HM
    by_cases hlt : j < 4
    · have hcs : j = 0 ∨ j = 1 ∨ j = 2 ∨ j = 3 := by omega
      clear hj0 hj4 hlt
      rcases hcs with rfl | rfl | rfl | rfl
      · cases hc : hb 97 with
        | false =>
          have HC := fun W => HH 97 (by omega) W
          rw [hc] at HC
          have HHC := Aside0.mk hc; clear hc
          go_wp2_with fail
          refine (field_a _ _ _ _ _ _ _ HV.out.2.1).mono ?_
          rintro e w5 ⟨rfl, hd5⟩
          have HV5 := Aside0.mk (HV.out.below hd5.below)
          clear i0 i1 i2 i3 i4 r0 r1 r2 r3 r4 r5 s0 s1 s2 s3 hd5
          obtain ⟨i0, i1, i2, i3, i4⟩ := blk5 HV5.out.2.1
          obtain ⟨r0, r1, r2, r3, r4, r5⟩ := blk6 HV5.out.2.2.1
          go_wp2_with fail
          refine (HC _).out.mono ?_
          rintro e w6 ⟨rfl, hb6⟩
          have HV6 := Aside0.mk (HV5.out.below hb6)
          clear i0 i1 i2 i3 i4 r0 r1 r2 r3 r4 r5 hb6 HC
          obtain ⟨r0, r1, r2, r3, r4, r5⟩ := blk6 HV6.out.2.2.1
          by_cases c1 : i.f1 < 0
          · go_wp2
            go_ret
            exact ⟨by simp [isaOk, fldOk, HHC.out]; omega, HV6.out.1⟩
          · by_cases c2 : i.f1 > 0
            · go_wp2
              go_ret
              exact ⟨by simp [isaOk, fldOk, HHC.out]; omega, HV6.out.1⟩
            · go_wp2
              go_roundw
              case rel => exact ⟨1, rfl, by omega, by omega, ⟨HV6.out, by obtain ⟨h1, h2, h3, h4⟩ := HT.out; exact ⟨fun h => by first | exact h1 (by omega) | (simp [fldOk, HHC.out]; omega), fun h => by first | exact h2 (by omega) | (exfalso; omega) | (simp [fldOk, HHC.out]; omega), fun h => by first | exact h3 (by omega) | (exfalso; omega) | (simp [fldOk, HHC.out]; omega), fun h => by first | exact h4 (by omega) | (exfalso; omega) | (simp [fldOk, HHC.out]; omega)⟩⟩⟩
              case measure => simp [intOf]
        | true =>
          have HC := fun W => HH 97 (by omega) W
          rw [hc] at HC
          have HHC := Aside0.mk hc; clear hc
          go_wp2_with fail
          refine (field_a _ _ _ _ _ _ _ HV.out.2.1).mono ?_
          rintro e w5 ⟨rfl, hd5⟩
          have HV5 := Aside0.mk (HV.out.below hd5.below)
          clear i0 i1 i2 i3 i4 r0 r1 r2 r3 r4 r5 s0 s1 s2 s3 hd5
          obtain ⟨i0, i1, i2, i3, i4⟩ := blk5 HV5.out.2.1
          obtain ⟨r0, r1, r2, r3, r4, r5⟩ := blk6 HV5.out.2.2.1
          go_wp2_with fail
          refine (HC _).out.mono ?_
          rintro e w6 ⟨rfl, hb6⟩
          have HV6 := Aside0.mk (HV5.out.below hb6)
          clear i0 i1 i2 i3 i4 r0 r1 r2 r3 r4 r5 hb6 HC
          obtain ⟨r0, r1, r2, r3, r4, r5⟩ := blk6 HV6.out.2.2.1
          by_cases c1 : i.f1 < 0
          · go_wp2
            go_ret
            exact ⟨by simp [isaOk, fldOk, HHC.out]; omega, HV6.out.1⟩
          · by_cases c2 : i.f1 > 15
            · go_wp2
              go_ret
              exact ⟨by simp [isaOk, fldOk, HHC.out]; omega, HV6.out.1⟩
            · go_wp2
              go_roundw
              case rel => exact ⟨1, rfl, by omega, by omega, ⟨HV6.out, by obtain ⟨h1, h2, h3, h4⟩ := HT.out; exact ⟨fun h => by first | exact h1 (by omega) | (simp [fldOk, HHC.out]; omega), fun h => by first | exact h2 (by omega) | (exfalso; omega) | (simp [fldOk, HHC.out]; omega), fun h => by first | exact h3 (by omega) | (exfalso; omega) | (simp [fldOk, HHC.out]; omega), fun h => by first | exact h4 (by omega) | (exfalso; omega) | (simp [fldOk, HHC.out]; omega)⟩⟩⟩
              case measure => simp [intOf]
      · cases hc : hb 98 with
        | false =>
          have HC := fun W => HH 98 (by omega) W
          rw [hc] at HC
          have HHC := Aside0.mk hc; clear hc
          go_wp2_with fail
          refine (field_b _ _ _ _ _ _ _ HV.out.2.1).mono ?_
          rintro e w5 ⟨rfl, hd5⟩
          have HV5 := Aside0.mk (HV.out.below hd5.below)
          clear i0 i1 i2 i3 i4 r0 r1 r2 r3 r4 r5 s0 s1 s2 s3 hd5
          obtain ⟨i0, i1, i2, i3, i4⟩ := blk5 HV5.out.2.1
          obtain ⟨r0, r1, r2, r3, r4, r5⟩ := blk6 HV5.out.2.2.1
          go_wp2_with fail
          refine (HC _).out.mono ?_
          rintro e w6 ⟨rfl, hb6⟩
          have HV6 := Aside0.mk (HV5.out.below hb6)
          clear i0 i1 i2 i3 i4 r0 r1 r2 r3 r4 r5 hb6 HC
          obtain ⟨r0, r1, r2, r3, r4, r5⟩ := blk6 HV6.out.2.2.1
          by_cases c1 : i.f2 < 0
          · go_wp2
            go_ret
            exact ⟨by simp [isaOk, fldOk, HHC.out]; omega, HV6.out.1⟩
          · by_cases c2 : i.f2 > 0
            · go_wp2
              go_ret
              exact ⟨by simp [isaOk, fldOk, HHC.out]; omega, HV6.out.1⟩
            · go_wp2
              go_roundw
              case rel => exact ⟨2, rfl, by omega, by omega, ⟨HV6.out, by obtain ⟨h1, h2, h3, h4⟩ := HT.out; exact ⟨fun h => by first | exact h1 (by omega) | (simp [fldOk, HHC.out]; omega), fun h => by first | exact h2 (by omega) | (exfalso; omega) | (simp [fldOk, HHC.out]; omega), fun h => by first | exact h3 (by omega) | (exfalso; omega) | (simp [fldOk, HHC.out]; omega), fun h => by first | exact h4 (by omega) | (exfalso; omega) | (simp [fldOk, HHC.out]; omega)⟩⟩⟩
              case measure => simp [intOf]
        | true =>
          have HC := fun W => HH 98 (by omega) W
          rw [hc] at HC
          have HHC := Aside0.mk hc; clear hc
          go_wp2_with fail
          refine (field_b _ _ _ _ _ _ _ HV.out.2.1).mono ?_
          rintro e w5 ⟨rfl, hd5⟩
          have HV5 := Aside0.mk (HV.out.below hd5.below)
          clear i0 i1 i2 i3 i4 r0 r1 r2 r3 r4 r5 s0 s1 s2 s3 hd5
          obtain ⟨i0, i1, i2, i3, i4⟩ := blk5 HV5.out.2.1
          obtain ⟨r0, r1, r2, r3, r4, r5⟩ := blk6 HV5.out.2.2.1
          go_wp2_with fail
          refine (HC _).out.mono ?_
          rintro e w6 ⟨rfl, hb6⟩
          have HV6 := Aside0.mk (HV5.out.below hb6)
          clear i0 i1 i2 i3 i4 r0 r1 r2 r3 r4 r5 hb6 HC
          obtain ⟨r0, r1, r2, r3, r4, r5⟩ := blk6 HV6.out.2.2.1
          by_cases c1 : i.f2 < 0
          · go_wp2
            go_ret
            exact ⟨by simp [isaOk, fldOk, HHC.out]; omega, HV6.out.1⟩
          · by_cases c2 : i.f2 > 15
            · go_wp2
              go_ret
              exact ⟨by simp [isaOk, fldOk, HHC.out]; omega, HV6.out.1⟩
            · go_wp2
              go_roundw
              case rel => exact ⟨2, rfl, by omega, by omega, ⟨HV6.out, by obtain ⟨h1, h2, h3, h4⟩ := HT.out; exact ⟨fun h => by first | exact h1 (by omega) | (simp [fldOk, HHC.out]; omega), fun h => by first | exact h2 (by omega) | (exfalso; omega) | (simp [fldOk, HHC.out]; omega), fun h => by first | exact h3 (by omega) | (exfalso; omega) | (simp [fldOk, HHC.out]; omega), fun h => by first | exact h4 (by omega) | (exfalso; omega) | (simp [fldOk, HHC.out]; omega)⟩⟩⟩
              case measure => simp [intOf]
      · cases hc : hb 99 with
        | false =>
          have HC := fun W => HH 99 (by omega) W
          rw [hc] at HC
          have HHC := Aside0.mk hc; clear hc
          go_wp2_with fail
          refine (field_c _ _ _ _ _ _ _ HV.out.2.1).mono ?_
          rintro e w5 ⟨rfl, hd5⟩
          have HV5 := Aside0.mk (HV.out.below hd5.below)
          clear i0 i1 i2 i3 i4 r0 r1 r2 r3 r4 r5 s0 s1 s2 s3 hd5
          obtain ⟨i0, i1, i2, i3, i4⟩ := blk5 HV5.out.2.1
          obtain ⟨r0, r1, r2, r3, r4, r5⟩ := blk6 HV5.out.2.2.1
          go_wp2_with fail
          refine (HC _).out.mono ?_
          rintro e w6 ⟨rfl, hb6⟩
          have HV6 := Aside0.mk (HV5.out.below hb6)
          clear i0 i1 i2 i3 i4 r0 r1 r2 r3 r4 r5 hb6 HC
          obtain ⟨r0, r1, r2, r3, r4, r5⟩ := blk6 HV6.out.2.2.1
          by_cases c1 : i.f3 < 0
          · go_wp2
            go_ret
            exact ⟨by simp [isaOk, fldOk, HHC.out]; omega, HV6.out.1⟩
          · by_cases c2 : i.f3 > 0
            · go_wp2
              go_ret
              exact ⟨by simp [isaOk, fldOk, HHC.out]; omega, HV6.out.1⟩
            · go_wp2
              go_roundw
              case rel => exact ⟨3, rfl, by omega, by omega, ⟨HV6.out, by obtain ⟨h1, h2, h3, h4⟩ := HT.out; exact ⟨fun h => by first | exact h1 (by omega) | (simp [fldOk, HHC.out]; omega), fun h => by first | exact h2 (by omega) | (exfalso; omega) | (simp [fldOk, HHC.out]; omega), fun h => by first | exact h3 (by omega) | (exfalso; omega) | (simp [fldOk, HHC.out]; omega), fun h => by first | exact h4 (by omega) | (exfalso; omega) | (simp [fldOk, HHC.out]; omega)⟩⟩⟩
              case measure => simp [intOf]
        | true =>
          have HC := fun W => HH 99 (by omega) W
          rw [hc] at HC
          have HHC := Aside0.mk hc; clear hc
          go_wp2_with fail
          refine (field_c _ _ _ _ _ _ _ HV.out.2.1).mono ?_
          rintro e w5 ⟨rfl, hd5⟩
          have HV5 := Aside0.mk (HV.out.below hd5.below)
          clear i0 i1 i2 i3 i4 r0 r1 r2 r3 r4 r5 s0 s1 s2 s3 hd5
          obtain ⟨i0, i1, i2, i3, i4⟩ := blk5 HV5.out.2.1
          obtain ⟨r0, r1, r2, r3, r4, r5⟩ := blk6 HV5.out.2.2.1
          go_wp2_with fail
          refine (HC _).out.mono ?_
          rintro e w6 ⟨rfl, hb6⟩
          have HV6 := Aside0.mk (HV5.out.below hb6)
          clear i0 i1 i2 i3 i4 r0 r1 r2 r3 r4 r5 hb6 HC
          obtain ⟨r0, r1, r2, r3, r4, r5⟩ := blk6 HV6.out.2.2.1
          by_cases c1 : i.f3 < 0
          · go_wp2
            go_ret
            exact ⟨by simp [isaOk, fldOk, HHC.out]; omega, HV6.out.1⟩
          · by_cases c2 : i.f3 > 15
            · go_wp2
              go_ret
              exact ⟨by simp [isaOk, fldOk, HHC.out]; omega, HV6.out.1⟩
            · go_wp2
              go_roundw
              case rel => exact ⟨3, rfl, by omega, by omega, ⟨HV6.out, by obtain ⟨h1, h2, h3, h4⟩ := HT.out; exact ⟨fun h => by first | exact h1 (by omega) | (simp [fldOk, HHC.out]; omega), fun h => by first | exact h2 (by omega) | (exfalso; omega) | (simp [fldOk, HHC.out]; omega), fun h => by first | exact h3 (by omega) | (exfalso; omega) | (simp [fldOk, HHC.out]; omega), fun h => by first | exact h4 (by omega) | (exfalso; omega) | (simp [fldOk, HHC.out]; omega)⟩⟩⟩
              case measure => simp [intOf]
      · cases hc : hb 105 with
        | false =>
          have HC := fun W => HH 105 (by omega) W
          rw [hc] at HC
          have HHC := Aside0.mk hc; clear hc
          go_wp2_with fail
          refine (field_i _ _ _ _ _ _ _ HV.out.2.1).mono ?_
          rintro e w5 ⟨rfl, hd5⟩
          have HV5 := Aside0.mk (HV.out.below hd5.below)
          clear i0 i1 i2 i3 i4 r0 r1 r2 r3 r4 r5 s0 s1 s2 s3 hd5
          obtain ⟨i0, i1, i2, i3, i4⟩ := blk5 HV5.out.2.1
          obtain ⟨r0, r1, r2, r3, r4, r5⟩ := blk6 HV5.out.2.2.1
          go_wp2_with fail
          refine (HC _).out.mono ?_
          rintro e w6 ⟨rfl, hb6⟩
          have HV6 := Aside0.mk (HV5.out.below hb6)
          clear i0 i1 i2 i3 i4 r0 r1 r2 r3 r4 r5 hb6 HC
          obtain ⟨r0, r1, r2, r3, r4, r5⟩ := blk6 HV6.out.2.2.1
          by_cases c1 : i.f4 < 0
          · go_wp2
            go_ret
            exact ⟨by simp [isaOk, fldOk, HHC.out]; omega, HV6.out.1⟩
          · by_cases c2 : i.f4 > 0
            · go_wp2
              go_ret
              exact ⟨by simp [isaOk, fldOk, HHC.out]; omega, HV6.out.1⟩
            · go_wp2
              go_roundw
              case rel => exact ⟨4, rfl, by omega, by omega, ⟨HV6.out, by obtain ⟨h1, h2, h3, h4⟩ := HT.out; exact ⟨fun h => by first | exact h1 (by omega) | (simp [fldOk, HHC.out]; omega), fun h => by first | exact h2 (by omega) | (exfalso; omega) | (simp [fldOk, HHC.out]; omega), fun h => by first | exact h3 (by omega) | (exfalso; omega) | (simp [fldOk, HHC.out]; omega), fun h => by first | exact h4 (by omega) | (exfalso; omega) | (simp [fldOk, HHC.out]; omega)⟩⟩⟩
              case measure => simp [intOf]
        | true =>
          have HC := fun W => HH 105 (by omega) W
          rw [hc] at HC
          have HHC := Aside0.mk hc; clear hc
          go_wp2_with fail
          refine (field_i _ _ _ _ _ _ _ HV.out.2.1).mono ?_
          rintro e w5 ⟨rfl, hd5⟩
          have HV5 := Aside0.mk (HV.out.below hd5.below)
          clear i0 i1 i2 i3 i4 r0 r1 r2 r3 r4 r5 s0 s1 s2 s3 hd5
          obtain ⟨i0, i1, i2, i3, i4⟩ := blk5 HV5.out.2.1
          obtain ⟨r0, r1, r2, r3, r4, r5⟩ := blk6 HV5.out.2.2.1
          go_wp2_with fail
          refine (HC _).out.mono ?_
          rintro e w6 ⟨rfl, hb6⟩
          have HV6 := Aside0.mk (HV5.out.below hb6)
          clear i0 i1 i2 i3 i4 r0 r1 r2 r3 r4 r5 hb6 HC
          obtain ⟨r0, r1, r2, r3, r4, r5⟩ := blk6 HV6.out.2.2.1
          go_upto_region 11 with (fail)
          go_region
          all_goals
            by_cases c1 : i.f4 < lo
            · go_wp2
              go_ret
              exact ⟨by simp [isaOk, fldOk, HHC.out]; omega, (HV6.out.below (below_drew (Below.refl _ _))).1⟩
            · by_cases c2 : i.f4 > hi
              · go_wp2
                go_ret
                exact ⟨by simp [isaOk, fldOk, HHC.out]; omega, (HV6.out.below (below_drew (Below.refl _ _))).1⟩
              · go_wp2
                go_roundw
                case rel => exact ⟨4, rfl, by omega, by omega, ⟨HV6.out.below (below_drew (Below.refl _ _)), by obtain ⟨h1, h2, h3, h4⟩ := HT.out; exact ⟨fun h => by first | exact h1 (by omega) | (simp [fldOk, HHC.out]; omega), fun h => by first | exact h2 (by omega) | (exfalso; omega) | (simp [fldOk, HHC.out]; omega), fun h => by first | exact h3 (by omega) | (exfalso; omega) | (simp [fldOk, HHC.out]; omega), fun h => by first | exact h4 (by omega) | (exfalso; omega) | (simp [fldOk, HHC.out]; omega)⟩⟩⟩
                case measure => simp [intOf]
    · have e : j = 4 := by omega
      subst e
      go_wp2
      go_ret
      obtain ⟨h1, h2, h3, h4⟩ := HT.out
      exact ⟨by simp [isaOk, h1, h2, h3, h4], HV.out.1⟩
end Go.Proofs.Ytadaopfcgpfiiaa
namespace Go.Proofs.Ytadaopfcgpfiiaa
open Go.RowKit Go.Proofs.YtadaopfcgpfiiaaW.PrintWords Go.Proofs.YtadaopfcgpfiiaaW.PrintLast Go.Proofs.YtadaopfcgpfiiaaW.PrintMore PCg
set_option linter.unusedVariables false
set_option linter.unusedSimpArgs false
/-- the registers that an opcode has, and its immediate's range (low above high: none) -/
def fmtOf (op : Int) : Option (Nat × Int × Int) :=
  if 2 ≤ op ∧ op ≤ 13 then some (3, 1, 0)
  else if op = 0 ∨ op = 1 then some (0, 1, 0)
  else if op = 14 then some (1, -131072, 131071)
  else if op = 15 ∨ op = 18 ∨ op = 19 ∨ op = 20 ∨ op = 21 then some (2, -131072, 131071)
  else if op = 16 then some (2, 0, 31)
  else if op = 17 then some (2, 0, 16383)
  else if op = 22 ∨ op = 23 then some (1, -131072, 131071)
  else if op = 24 then some (0, -131072, 131071)
  else if op = 25 then some (1, 1, 131071)
  else if op = 26 ∨ op = 27 then some (1, 0, 7)
  else if op = 28 ∨ op = 29 then some (0, 0, 3)
  else none
def regB (used : Bool) (x : Int) : Bool := if used then (decide (0 ≤ x) && decide (x < 16)) else x == 0
/-- an instruction is valid -/
def instrB (i : S53) : Bool :=
  match fmtOf i.f0 with
  | none => false
  | some (n, lo, hi) => regB (decide (0 < n)) i.f1 && regB (decide (1 < n)) i.f2 && regB (decide (2 < n)) i.f3 && (if lo > hi then i.f4 == 0 else (decide (lo ≤ i.f4) && decide (i.f4 ≤ hi)))
abbrev rowZ : ByteArray × ByteArray × Int × Int × ByteArray × ByteArray × Bool := (⟨#[]⟩, ⟨#[]⟩, 0, 0, ⟨#[]⟩, ⟨#[]⟩, false)
theorem of_find (i : S53) (w : World) (r : ByteArray × ByteArray × Int × Int × ByteArray × ByteArray × Bool) (ops : ByteArray) (lo hi : Int) (hb : Int → Bool) (hf : isa_find.f 100 i.f0 = some r) (h1 : r.2.1 = ops) (h2 : r.2.2.1 = lo) (h3 : r.2.2.2.1 = hi) (h4 : r.2.2.2.2.2.2 = true) (hs : ops.size ≤ 1000)
    (hh : ∀ c : Int, c = 97 ∨ c = 98 ∨ c = 99 ∨ c = 105 → slices_Contains_byte_byte.f 100 (bytesL ops) c = some (hb c)) (he : isaOk hb lo hi i = instrB i) :
    Calls Try.prog 36 #[.agg #[.int .u8 i.f0, .int .i64 i.f1, .int .i64 i.f2, .int .i64 i.f3, .int .i64 i.f4]] w fun e w' => e = .returned (.bool (instrB i)) ∧ Below w.heap.size w w' := by
  obtain ⟨nm, ops', lo', hi', rd, ws, ok⟩ := r
  dsimp only at h1 h2 h3 h4
  subst h1 h2 h3 h4
  rw [← he]
  exact isaValid_any i 100 nm ops' lo' hi' rd ws w hb hf hs hh
def hb_none (c : Int) : Bool := false
theorem hh_none : ∀ c : Int, c = 97 ∨ c = 98 ∨ c = 99 ∨ c = 105 → slices_Contains_byte_byte.f 100 (bytesL ⟨#[]⟩) c = some (hb_none c) := by
  intro c hc
  rcases hc with rfl | rfl | rfl | rfl <;> kernel_rfl
theorem ok_none (i : S53) (lo hi : Int) (hf : fmtOf i.f0 = some (0, 1, 0)) : isaOk hb_none lo hi i = instrB i := by
  unfold instrB
  rw [hf]
  rw [Bool.eq_iff_iff]
  simp [isaOk, fldOk, hb_none, regB]
  try (rw [])
  
  omega
def hb_abc (c : Int) : Bool := decide (c = 97) || decide (c = 98) || decide (c = 99)
theorem hh_abc : ∀ c : Int, c = 97 ∨ c = 98 ∨ c = 99 ∨ c = 105 → slices_Contains_byte_byte.f 100 (bytesL ⟨#[97, 98, 99]⟩) c = some (hb_abc c) := by
  intro c hc
  rcases hc with rfl | rfl | rfl | rfl <;> kernel_rfl
theorem ok_abc (i : S53) (lo hi : Int) (hf : fmtOf i.f0 = some (3, 1, 0)) : isaOk hb_abc lo hi i = instrB i := by
  unfold instrB
  rw [hf]
  rw [Bool.eq_iff_iff]
  simp [isaOk, fldOk, hb_abc, regB]
  try (rw [])
  
  omega
def hb_ai (c : Int) : Bool := decide (c = 97) || decide (c = 105)
theorem hh_ai : ∀ c : Int, c = 97 ∨ c = 98 ∨ c = 99 ∨ c = 105 → slices_Contains_byte_byte.f 100 (bytesL ⟨#[97, 105]⟩) c = some (hb_ai c) := by
  intro c hc
  rcases hc with rfl | rfl | rfl | rfl <;> kernel_rfl
theorem ok_ai (i : S53) (lo hi : Int) (hf : fmtOf i.f0 = some (1, lo, hi)) (hlh : lo ≤ hi) : isaOk hb_ai lo hi i = instrB i := by
  unfold instrB
  rw [hf]
  rw [Bool.eq_iff_iff]
  simp [isaOk, fldOk, hb_ai, regB]
  (rw [if_neg (show ¬ hi < lo by omega)])
  try simp only [Bool.and_eq_true, decide_eq_true_eq]
  omega
def hb_abi (c : Int) : Bool := decide (c = 97) || decide (c = 98) || decide (c = 105)
theorem hh_abi : ∀ c : Int, c = 97 ∨ c = 98 ∨ c = 99 ∨ c = 105 → slices_Contains_byte_byte.f 100 (bytesL ⟨#[97, 98, 105]⟩) c = some (hb_abi c) := by
  intro c hc
  rcases hc with rfl | rfl | rfl | rfl <;> kernel_rfl
theorem ok_abi (i : S53) (lo hi : Int) (hf : fmtOf i.f0 = some (2, lo, hi)) (hlh : lo ≤ hi) : isaOk hb_abi lo hi i = instrB i := by
  unfold instrB
  rw [hf]
  rw [Bool.eq_iff_iff]
  simp [isaOk, fldOk, hb_abi, regB]
  (rw [if_neg (show ¬ hi < lo by omega)])
  try simp only [Bool.and_eq_true, decide_eq_true_eq]
  omega
def hb_i (c : Int) : Bool := decide (c = 105)
theorem hh_i : ∀ c : Int, c = 97 ∨ c = 98 ∨ c = 99 ∨ c = 105 → slices_Contains_byte_byte.f 100 (bytesL ⟨#[105]⟩) c = some (hb_i c) := by
  intro c hc
  rcases hc with rfl | rfl | rfl | rfl <;> kernel_rfl
theorem ok_i (i : S53) (lo hi : Int) (hf : fmtOf i.f0 = some (0, lo, hi)) (hlh : lo ≤ hi) : isaOk hb_i lo hi i = instrB i := by
  unfold instrB
  rw [hf]
  rw [Bool.eq_iff_iff]
  simp [isaOk, fldOk, hb_i, regB]
  (rw [if_neg (show ¬ hi < lo by omega)])
  try simp only [Bool.and_eq_true, decide_eq_true_eq]
  omega
theorem find_none (op : Int) (h0 : 30 ≤ op) (h1 : op < 256) : isa_find.f 100 op = some rowZ := by
  have hr : ∃ l, isa_rows.f 100 = some l ∧ l.length = 30 := ⟨(isa_rows.f 100).getD [], by kernel_rfl, by kernel_rfl⟩
  obtain ⟨l, hl, hn⟩ := hr
  unfold isa_find.f
  rw [hl, Option.bind_some, w64 (by omega), if_pos (by omega)]
theorem fmt_none (op : Int) (h0 : 30 ≤ op) : fmtOf op = none := by
  unfold fmtOf
  repeat rw [if_neg (by omega)]
set_option maxRecDepth 100000 in
theorem isaValid_all (i : S53) (w : World) (h0 : 0 ≤ i.f0) (h1 : i.f0 < 256) :
    Calls Try.prog 36 #[.agg #[.int .u8 i.f0, .int .i64 i.f1, .int .i64 i.f2, .int .i64 i.f3, .int .i64 i.f4]] w fun e w' => e = .returned (.bool (instrB i)) ∧ Below w.heap.size w w' := by
  obtain ⟨op, a, b, c, m⟩ := i
  dsimp only at h0 h1
  by_cases h : 30 ≤ op
  · have hn : instrB ⟨op, a, b, c, m⟩ = false := by
      unfold instrB
      rw [fmt_none _ h]
    rw [hn]
    exact isaValid_no ⟨op, a, b, c, m⟩ 100 _ _ _ _ _ _ w (find_none op h h1)
  have hc : op = 0 ∨ op = 1 ∨ op = 2 ∨ op = 3 ∨ op = 4 ∨ op = 5 ∨ op = 6 ∨ op = 7 ∨ op = 8 ∨ op = 9 ∨ op = 10 ∨ op = 11 ∨ op = 12 ∨ op = 13 ∨ op = 14 ∨ op = 15 ∨ op = 16 ∨ op = 17 ∨ op = 18 ∨ op = 19 ∨ op = 20 ∨ op = 21 ∨ op = 22 ∨ op = 23 ∨ op = 24 ∨ op = 25 ∨ op = 26 ∨ op = 27 ∨ op = 28 ∨ op = 29 := by omega
  rcases hc with rfl | rfl | rfl | rfl | rfl | rfl | rfl | rfl | rfl | rfl | rfl | rfl | rfl | rfl | rfl | rfl | rfl | rfl | rfl | rfl | rfl | rfl | rfl | rfl | rfl | rfl | rfl | rfl | rfl | rfl
  · exact of_find _ w ((isa_find.f 100 0).getD rowZ) ⟨#[]⟩ (0) 0 hb_none (by kernel_rfl) (by kernel_rfl) (by kernel_rfl) (by kernel_rfl) (by kernel_rfl) (by decide) hh_none (ok_none _ _ _ (by rfl))
  · exact of_find _ w ((isa_find.f 100 1).getD rowZ) ⟨#[]⟩ (0) 0 hb_none (by kernel_rfl) (by kernel_rfl) (by kernel_rfl) (by kernel_rfl) (by kernel_rfl) (by decide) hh_none (ok_none _ _ _ (by rfl))
  · exact of_find _ w ((isa_find.f 100 2).getD rowZ) ⟨#[97, 98, 99]⟩ (0) 0 hb_abc (by kernel_rfl) (by kernel_rfl) (by kernel_rfl) (by kernel_rfl) (by kernel_rfl) (by decide) hh_abc (ok_abc _ _ _ (by rfl))
  · exact of_find _ w ((isa_find.f 100 3).getD rowZ) ⟨#[97, 98, 99]⟩ (0) 0 hb_abc (by kernel_rfl) (by kernel_rfl) (by kernel_rfl) (by kernel_rfl) (by kernel_rfl) (by decide) hh_abc (ok_abc _ _ _ (by rfl))
  · exact of_find _ w ((isa_find.f 100 4).getD rowZ) ⟨#[97, 98, 99]⟩ (0) 0 hb_abc (by kernel_rfl) (by kernel_rfl) (by kernel_rfl) (by kernel_rfl) (by kernel_rfl) (by decide) hh_abc (ok_abc _ _ _ (by rfl))
  · exact of_find _ w ((isa_find.f 100 5).getD rowZ) ⟨#[97, 98, 99]⟩ (0) 0 hb_abc (by kernel_rfl) (by kernel_rfl) (by kernel_rfl) (by kernel_rfl) (by kernel_rfl) (by decide) hh_abc (ok_abc _ _ _ (by rfl))
  · exact of_find _ w ((isa_find.f 100 6).getD rowZ) ⟨#[97, 98, 99]⟩ (0) 0 hb_abc (by kernel_rfl) (by kernel_rfl) (by kernel_rfl) (by kernel_rfl) (by kernel_rfl) (by decide) hh_abc (ok_abc _ _ _ (by rfl))
  · exact of_find _ w ((isa_find.f 100 7).getD rowZ) ⟨#[97, 98, 99]⟩ (0) 0 hb_abc (by kernel_rfl) (by kernel_rfl) (by kernel_rfl) (by kernel_rfl) (by kernel_rfl) (by decide) hh_abc (ok_abc _ _ _ (by rfl))
  · exact of_find _ w ((isa_find.f 100 8).getD rowZ) ⟨#[97, 98, 99]⟩ (0) 0 hb_abc (by kernel_rfl) (by kernel_rfl) (by kernel_rfl) (by kernel_rfl) (by kernel_rfl) (by decide) hh_abc (ok_abc _ _ _ (by rfl))
  · exact of_find _ w ((isa_find.f 100 9).getD rowZ) ⟨#[97, 98, 99]⟩ (0) 0 hb_abc (by kernel_rfl) (by kernel_rfl) (by kernel_rfl) (by kernel_rfl) (by kernel_rfl) (by decide) hh_abc (ok_abc _ _ _ (by rfl))
  · exact of_find _ w ((isa_find.f 100 10).getD rowZ) ⟨#[97, 98, 99]⟩ (0) 0 hb_abc (by kernel_rfl) (by kernel_rfl) (by kernel_rfl) (by kernel_rfl) (by kernel_rfl) (by decide) hh_abc (ok_abc _ _ _ (by rfl))
  · exact of_find _ w ((isa_find.f 100 11).getD rowZ) ⟨#[97, 98, 99]⟩ (0) 0 hb_abc (by kernel_rfl) (by kernel_rfl) (by kernel_rfl) (by kernel_rfl) (by kernel_rfl) (by decide) hh_abc (ok_abc _ _ _ (by rfl))
  · exact of_find _ w ((isa_find.f 100 12).getD rowZ) ⟨#[97, 98, 99]⟩ (0) 0 hb_abc (by kernel_rfl) (by kernel_rfl) (by kernel_rfl) (by kernel_rfl) (by kernel_rfl) (by decide) hh_abc (ok_abc _ _ _ (by rfl))
  · exact of_find _ w ((isa_find.f 100 13).getD rowZ) ⟨#[97, 98, 99]⟩ (0) 0 hb_abc (by kernel_rfl) (by kernel_rfl) (by kernel_rfl) (by kernel_rfl) (by kernel_rfl) (by decide) hh_abc (ok_abc _ _ _ (by rfl))
  · exact of_find _ w ((isa_find.f 100 14).getD rowZ) ⟨#[97, 105]⟩ (-131072) 131071 hb_ai (by kernel_rfl) (by kernel_rfl) (by kernel_rfl) (by kernel_rfl) (by kernel_rfl) (by decide) hh_ai (ok_ai _ _ _ (by rfl) (by omega))
  · exact of_find _ w ((isa_find.f 100 15).getD rowZ) ⟨#[97, 98, 105]⟩ (-131072) 131071 hb_abi (by kernel_rfl) (by kernel_rfl) (by kernel_rfl) (by kernel_rfl) (by kernel_rfl) (by decide) hh_abi (ok_abi _ _ _ (by rfl) (by omega))
  · exact of_find _ w ((isa_find.f 100 16).getD rowZ) ⟨#[97, 98, 105]⟩ (0) 31 hb_abi (by kernel_rfl) (by kernel_rfl) (by kernel_rfl) (by kernel_rfl) (by kernel_rfl) (by decide) hh_abi (ok_abi _ _ _ (by rfl) (by omega))
  · exact of_find _ w ((isa_find.f 100 17).getD rowZ) ⟨#[97, 98, 105]⟩ (0) 16383 hb_abi (by kernel_rfl) (by kernel_rfl) (by kernel_rfl) (by kernel_rfl) (by kernel_rfl) (by decide) hh_abi (ok_abi _ _ _ (by rfl) (by omega))
  · exact of_find _ w ((isa_find.f 100 18).getD rowZ) ⟨#[97, 98, 105]⟩ (-131072) 131071 hb_abi (by kernel_rfl) (by kernel_rfl) (by kernel_rfl) (by kernel_rfl) (by kernel_rfl) (by decide) hh_abi (ok_abi _ _ _ (by rfl) (by omega))
  · exact of_find _ w ((isa_find.f 100 19).getD rowZ) ⟨#[97, 98, 105]⟩ (-131072) 131071 hb_abi (by kernel_rfl) (by kernel_rfl) (by kernel_rfl) (by kernel_rfl) (by kernel_rfl) (by decide) hh_abi (ok_abi _ _ _ (by rfl) (by omega))
  · exact of_find _ w ((isa_find.f 100 20).getD rowZ) ⟨#[97, 98, 105]⟩ (-131072) 131071 hb_abi (by kernel_rfl) (by kernel_rfl) (by kernel_rfl) (by kernel_rfl) (by kernel_rfl) (by decide) hh_abi (ok_abi _ _ _ (by rfl) (by omega))
  · exact of_find _ w ((isa_find.f 100 21).getD rowZ) ⟨#[97, 98, 105]⟩ (-131072) 131071 hb_abi (by kernel_rfl) (by kernel_rfl) (by kernel_rfl) (by kernel_rfl) (by kernel_rfl) (by decide) hh_abi (ok_abi _ _ _ (by rfl) (by omega))
  · exact of_find _ w ((isa_find.f 100 22).getD rowZ) ⟨#[97, 105]⟩ (-131072) 131071 hb_ai (by kernel_rfl) (by kernel_rfl) (by kernel_rfl) (by kernel_rfl) (by kernel_rfl) (by decide) hh_ai (ok_ai _ _ _ (by rfl) (by omega))
  · exact of_find _ w ((isa_find.f 100 23).getD rowZ) ⟨#[97, 105]⟩ (-131072) 131071 hb_ai (by kernel_rfl) (by kernel_rfl) (by kernel_rfl) (by kernel_rfl) (by kernel_rfl) (by decide) hh_ai (ok_ai _ _ _ (by rfl) (by omega))
  · exact of_find _ w ((isa_find.f 100 24).getD rowZ) ⟨#[105]⟩ (-131072) 131071 hb_i (by kernel_rfl) (by kernel_rfl) (by kernel_rfl) (by kernel_rfl) (by kernel_rfl) (by decide) hh_i (ok_i _ _ _ (by rfl) (by omega))
  · exact of_find _ w ((isa_find.f 100 25).getD rowZ) ⟨#[97, 105]⟩ (1) 131071 hb_ai (by kernel_rfl) (by kernel_rfl) (by kernel_rfl) (by kernel_rfl) (by kernel_rfl) (by decide) hh_ai (ok_ai _ _ _ (by rfl) (by omega))
  · exact of_find _ w ((isa_find.f 100 26).getD rowZ) ⟨#[97, 105]⟩ (0) 7 hb_ai (by kernel_rfl) (by kernel_rfl) (by kernel_rfl) (by kernel_rfl) (by kernel_rfl) (by decide) hh_ai (ok_ai _ _ _ (by rfl) (by omega))
  · exact of_find _ w ((isa_find.f 100 27).getD rowZ) ⟨#[97, 105]⟩ (0) 7 hb_ai (by kernel_rfl) (by kernel_rfl) (by kernel_rfl) (by kernel_rfl) (by kernel_rfl) (by decide) hh_ai (ok_ai _ _ _ (by rfl) (by omega))
  · exact of_find _ w ((isa_find.f 100 28).getD rowZ) ⟨#[105]⟩ (0) 3 hb_i (by kernel_rfl) (by kernel_rfl) (by kernel_rfl) (by kernel_rfl) (by kernel_rfl) (by decide) hh_i (ok_i _ _ _ (by rfl) (by omega))
  · exact of_find _ w ((isa_find.f 100 29).getD rowZ) ⟨#[105]⟩ (0) 3 hb_i (by kernel_rfl) (by kernel_rfl) (by kernel_rfl) (by kernel_rfl) (by kernel_rfl) (by decide) hh_i (ok_i _ _ _ (by rfl) (by omega))
end Go.Proofs.Ytadaopfcgpfiiaa
namespace Go.Proofs.Ytadaopfcgpfiiaa
open Go.RowKit Go.Proofs.YtadaopfcgpfiiaaW.PrintWords Go.Proofs.YtadaopfcgpfiiaaW.PrintLast Go.Proofs.YtadaopfcgpfiiaaW.PrintMore PCg
set_option linter.unusedVariables false
set_option linter.unusedSimpArgs false
/-- the box of the instruction -/
def IBox (i : S53) (w : World) (b : Nat) (W : World) : Prop := Below w.heap.size w W ∧ W.heap[b]? = some (.cells #[.int .u8 i.f0, .int .i64 i.f1, .int .i64 i.f2, .int .i64 i.f3, .int .i64 i.f4] 53 (0, 0))
theorem IBox.below {i : S53} {w : World} {b : Nat} {W W1 : World} (h : IBox i w b W) (hb : Below W.heap.size W W1) : IBox i w b W1 := ⟨below_step h.1 hb, blk_below h.2 hb⟩
end Go.Proofs.Ytadaopfcgpfiiaa
namespace Go.Proofs.Ytadaopfcgpfiiaa
open Go.RowKit Go.Proofs.YtadaopfcgpfiiaaW.PrintWords Go.Proofs.YtadaopfcgpfiiaaW.PrintLast Go.Proofs.YtadaopfcgpfiiaaW.PrintMore PCg
set_option linter.unusedVariables false
set_option linter.unusedSimpArgs false
/-- does an opcode access a shared object, and its lock -/
def refKind (op : Int) : Option Bool := if op = 20 ∨ op = 21 then some false else if op = 28 ∨ op = 29 then some true else none
def brOk (x : S53) (k n : Int) : Bool := if 22 ≤ x.f0 ∧ x.f0 ≤ 24 then (decide (0 ≤ k + 1 + x.f4) && decide (k + 1 + x.f4 < n)) else true
/-- one instruction: how many references are taken behind it -/
def vStep (n : Int) (refs : List S105) (x : S53) (k : Int) (r : Nat) : Option Nat :=
  if instrB x && brOk x k n then
    match refKind x.f0 with
    | none => some r
    | some l => if r < refs.length ∧ (rd_T105 refs r).f0 = k ∧ (rd_T105 refs r).f2 = l then some (r + 1) else none
  else none
def vTo (code : List S53) (refs : List S105) : Nat → Option Nat
  | 0 => some 0
  | k + 1 => (vTo code refs k).bind (vStep code.length refs (rd_T53 code k) k)
/-- an object is valid -/
def objB (code : List S53) (data : Int) (refs : List S105) : Bool :=
  decide (1 ≤ code.length) && decide (code.length ≤ 4096) && decide (0 ≤ data) && decide (data ≤ 512) && (vTo code refs code.length == some refs.length)
theorem reference_f (op : Int) : codegen_reference.f 10 op = some ((refKind op).isSome, (refKind op).getD false) := by
  by_cases h1 : op = 20
  · subst h1; rfl
  by_cases h2 : op = 21
  · subst h2; rfl
  by_cases h3 : op = 28
  · subst h3; rfl
  by_cases h4 : op = 29
  · subst h4; rfl
  have h5 : (op == 21) = false := beq_eq_false_iff_ne.2 h2
  have h6 : refKind op = none := by unfold refKind; rw [if_neg (by omega), if_neg (by omega)]
  rw [h6]
  unfold codegen_reference.f
  rw [if_neg h1, h5]
  simp [codegen_reference.j0, h3, h4]
theorem target_f (x : S53) (k : Int) (h0 : 0 ≤ k) (h1 : k ≤ 1000000) (h2 : -1000000 ≤ x.f4) (h3 : x.f4 ≤ 1000000) : isa_Target.f x.f0 x.f1 x.f2 x.f3 x.f4 k = some (if 22 ≤ x.f0 ∧ x.f0 ≤ 24 then (k + 1 + x.f4, true) else (0, false)) := by
  unfold isa_Target.f isa_IsBranch.f
  rw [w64 (n := k + 1) (by omega), w64 (n := k + 1 + x.f4) (by omega)]
  by_cases h : x.f0 ≥ 22
  · by_cases h4 : x.f0 ≤ 24
    · simp [h, h4]
    · simp [h, h4]
  · have : ¬ (22 ≤ x.f0) := h
    simp [this]
theorem vTo_none {code : List S53} {refs : List S105} {k : Nat} (h : vTo code refs k = none) : ∀ d, vTo code refs (k + d) = none := by
  intro d
  induction d with
  | zero => exact h
  | succ d ih => rw [← Nat.add_assoc, vTo, ih]; rfl
theorem objB_no {code : List S53} {data : Int} {refs : List S105} {k : Nat} (hk : k < code.length) (h : vTo code refs (k + 1) = none) : objB code data refs = false := by
  have h2 := vTo_none h (code.length - (k + 1))
  rw [show k + 1 + (code.length - (k + 1)) = code.length by omega] at h2
  unfold objB
  rw [h2]
  simp
theorem instrB_imm {x : S53} (h : instrB x = true) : -1000000 ≤ x.f4 ∧ x.f4 ≤ 1000000 := by
  unfold instrB at h
  cases hf : fmtOf x.f0 with
  | none => rw [hf] at h; cases h
  | some p =>
    obtain ⟨n, lo, hi⟩ := p
    rw [hf] at h
    have hb : -1000000 ≤ lo ∧ hi ≤ 1000000 := by
      unfold fmtOf at hf
      repeat' split at hf
      all_goals first | (cases hf; done) | (cases hf; constructor <;> decide)
    simp only [Bool.and_eq_true] at h
    obtain ⟨_, h⟩ := h
    split at h
    · have := beq_iff_eq.1 h; omega
    · simp only [Bool.and_eq_true, decide_eq_true_eq] at h; omega
theorem cut_refs (A : Option Addr) (n c : Nat) (hn : 1 ≤ n) : ∃ A' : Option Addr, (∀ W : World, (Instr.slice 29 (.slice A n c) (some (.int .i64 1)) none none).run Try.prog W = .ok (.slice A' (n - 1) (c - 1)) W) ∧
    ∀ (w : World) (xs : List S105), xs.length = n → n ≤ c → Kd.C k105 w A n xs → Kd.C k105 w A' (n - 1) (xs.drop 1) := by
  have hi : ∃ i, Try.prog.info? 105 = some i ∧ i.size = 3 := ⟨(Try.prog.info? 105).get (by kernel_rfl), by kernel_rfl, by kernel_rfl⟩
  obtain ⟨i, hi, hsz⟩ := hi
  have ht : Try.prog.underlying 29 = some (.slice 105) := by kernel_rfl
  refine ⟨if c = 1 then A else A.map (·.add (1 * 3)), fun W => ?_, fun w xs hl hc h => ?_⟩
  · have hel : Try.prog.elem 29 = 105 := by simp [Program.elem, ht]
    have hu : Try.prog.underlying 29 = some (.slice (Try.prog.elem 29)) := by rw [hel]; exact ht
    have h := run_slice_l W 29 A n c hu .i64 ((1 : Nat) : Int) (Int.natCast_nonneg _) (by omega)
    rw [hel] at h
    refine h.trans ?_
    simp [sizeOf, typeInfo, hi, hsz, sliced, Result.andThen]
  · have h2 := Kd.C_drop (m := 1) (c := c) (hl ▸ h) (by omega) (by omega)
    rw [List.length_drop, hl] at h2
    exact h2
/-- the loop of Valid -/
def VSt (w : World) (code : List S53) (refs : List S105) (bo : Nat) (o : Obj) (k : Int) (rs : List S105) (A : Option Addr) (c : Nat) (W : World) : Prop :=
  Below w.heap.size w W ∧ W.heap[bo]? = some o ∧ Kd.C k105 w A rs.length rs ∧ rs.length ≤ c ∧ ∃ r, vTo code refs k.toNat = some r ∧ r ≤ refs.length ∧ rs = refs.drop r
set_option maxRecDepth 100000 in
set_option maxHeartbeats 2000000 in
theorem cgValid_any (nm : ByteArray) (A : Option Addr) (c : Nat) (code : List S53) (data : Int) (A2 : Option Addr) (c2 : Nat) (refs : List S105) (w : World)
    (hr : Kd.C k53 w A code.length code) (hcp : code.length ≤ c) (hr2 : Kd.C k105 w A2 refs.length refs) (hcp2 : refs.length ≤ c2) (hm : code.length ≤ 1000000) (hm2 : refs.length ≤ 1000000) (hop : ∀ x ∈ code, 0 ≤ x.f0 ∧ x.f0 < 256) :
    Calls Try.prog 14 #[.agg #[.string nm, .slice A code.length c, .int .i64 data, .slice A2 refs.length c2]] w fun e w' => e = .returned (.bool (objB code data refs)) ∧ Below w.heap.size w w' := by
  have HR := Aside0.mk hr; have HR2 := Aside0.mk hr2; have HOP := Aside0.mk hop
  clear hr hr2 hop
  have hu := Try.underlying53
  have hu2 := Try.underlying31
  have hu3 := Try.underlying105
  have HB1 := Aside0.mk (below_alloc (Below.refl w.heap.size w) (.cells #[.string nm, .slice A code.length c, .int .i64 data, .slice A2 refs.length c2] 31))
  have HO1 : Aside0 (_ = _) := Aside0.mk (blk_new w (.cells #[.string nm, .slice A code.length c, .int .i64 data, .slice A2 refs.length c2] 31))
  obtain ⟨o0, o1, o2, o3⟩ := blk4 HO1.out
  by_cases b1 : (1 : Int) ≤ code.length ∧ (code.length : Int) ≤ 4096 ∧ 0 ≤ data ∧ data ≤ 512
  · obtain ⟨b1, b2, b3, b4⟩ := b1
    have d1 : ((code.length : Int) < 1) = False := eq_false (by omega)
    have d2 : ((code.length : Int) > 4096) = False := eq_false (by omega)
    have d3 : (data < 0) = False := eq_false (by omega)
    have d4 : (data > 512) = False := eq_false (by omega)
    go_enter Try.func14, Try.ntmps14
    go_wp2_with fail
    obtain ⟨W1, hW1⟩ : ∃ W1, w.alloc (.cells #[.string nm, .slice A code.length c, .int .i64 data, .slice A2 refs.length c2] 31) = W1 := ⟨_, rfl⟩
    rw [hW1] at HB1 HO1
    rw [hW1]
    clear o0 o1 o2 o3 hW1
    go_loopw [3, 35] (fun v j W => ∃ k : Int, j = .int .i64 k ∧ 0 ≤ k ∧ k ≤ code.length ∧ ∃ rs Ar cr, v = .slice Ar rs.length cr ∧ Aside0 (VSt w code refs w.heap.size (.cells #[.string nm, .slice A code.length c, .int .i64 data, .slice A2 refs.length c2] 31) k rs Ar cr W)) (fun v j W => code.length - (intOf j).toNat)
    case atStart => exact ⟨0, rfl, Int.le_refl _, by omega, refs, A2, c2, rfl, ⟨HB1.out, HO1.out, HR2.out, hcp2, 0, rfl, Nat.zero_le _, rfl⟩⟩
    case round =>
      obtain ⟨k, rfl, hk0, hk, rs, Ar, cr, rfl, hV⟩ := hrel
      have HV := hV
      clear hV
      by_cases hlt : k < code.length
      · have p1 := eq_true hk0
        have q1 := eq_true hlt
        obtain ⟨ad, hA, x0, x1, x2, x3, x4⟩ := at_T53 (Kd.C_below HR.out HV.out.1) k hk0 hlt
        cases hA
        obtain ⟨r, hvt, hrl, hrs⟩ := HV.out.2.2.2.2
        have hxo := HOP.out (rd_T53 code k) (mem_rd (z := z53) hk0 hlt)
        obtain ⟨kn, hkn⟩ : ∃ kn : Nat, k.toNat = kn := ⟨_, rfl⟩
        have hkk : (kn : Int) = k := by omega
        have hst : vTo code refs (kn + 1) = vStep code.length refs (rd_T53 code k) k r := by
          rw [vTo, ← hkn, hvt, hkn, hkk]; rfl
        obtain ⟨x, hx⟩ : ∃ x, rd_T53 code k = x := ⟨_, rfl⟩
        rw [hx] at x0 x1 x2 x3 x4 hxo hst
        have HST := Aside0.mk hst; have HXO := Aside0.mk hxo; have HRS := Aside0.mk hrs; have HRL := Aside0.mk hrl
        have HKN := Aside0.mk hkn
        have hkl : kn < code.length := by omega
        have HNO : Aside0 (vStep code.length refs x k r = none → objB code data refs = false) := ⟨fun h => objB_no hkl (hst.trans h)⟩
        clear hvt hrl hrs hxo hst hx hkn
        go_wp2_with fail
        have hbx := below_alloc (Below.refl wr.heap.size wr) (.cells #[.int .u8 x.f0, .int .i64 x.f1, .int .i64 x.f2, .int .i64 x.f3, .int .i64 x.f4] 53)
        have hnx := blk_new wr (.cells #[.int .u8 x.f0, .int .i64 x.f1, .int .i64 x.f2, .int .i64 x.f3, .int .i64 x.f4] 53)
        refine (isaValid_all x _ HXO.out.1 HXO.out.2).mono ?_
        rintro e w5 ⟨rfl, hb5⟩
        have HB5 := Aside0.mk (below_step hbx hb5)
        have HX5 := Aside0.mk (blk_below hnx hb5)
        clear hbx hnx hb5 x0 x1 x2 x3 x4
        have HO5 := Aside0.mk (blk_below HV.out.2.1 HB5.out)
        have HW5 := Aside0.mk (below_step HV.out.1 HB5.out)
        cases hib : instrB x with
        | false =>
          have HN := Aside0.mk (HNO.out (by simp [vStep, hib]))
          clear hib
          go_wp2_with fail
          go_ret
          exact ⟨congrArg (fun b => Ending.returned (Value.bool b)) HN.out.symm, HW5.out⟩
        | true =>
          have HIM := Aside0.mk (instrB_imm hib)
          have HIB := Aside0.mk hib; clear hib
          obtain ⟨x0, x1, x2, x3, x4⟩ := blk5 HX5.out
          have HRF := fun W => Aside0.mk (codegen_reference.calls 10 x.f0 _ _ W (reference_f x.f0))
          by_cases hbr : 22 ≤ x.f0 ∧ x.f0 ≤ 24
          · have HTG := fun W => Aside0.mk (isa_Target.calls x.f0 x.f1 x.f2 x.f3 x.f4 k (k + 1 + x.f4) true W (by rw [target_f x k hk0 (by omega) HIM.out.1 HIM.out.2, if_pos hbr]))
            have hrk : refKind x.f0 = none := by unfold refKind; rw [if_neg (by omega), if_neg (by omega)]
            rw [hrk] at HRF
            have HBR := Aside0.mk hbr; have HRK := Aside0.mk hrk; clear hbr hrk
            obtain ⟨t, ht⟩ : ∃ t, k + 1 + x.f4 = t := ⟨_, rfl⟩
            rw [ht] at HTG
            have HT := Aside0.mk ht; clear ht
            go_wp2_with fail
            refine (HTG _).out.mono ?_
            rintro e w6 ⟨rfl, hb6⟩
            have HW6 := Aside0.mk (below_step HW5.out hb6)
            have HO6 := Aside0.mk (blk_below HO5.out hb6)
            have HX6 := Aside0.mk (blk_below HX5.out hb6)
            clear hb6 HTG x0 x1 x2 x3 x4
            obtain ⟨x0, x1, x2, x3, x4⟩ := blk5 HX6.out
            obtain ⟨o0, o1, o2, o3⟩ := blk4 HO6.out
            by_cases ht0 : t < 0
            · have HN := Aside0.mk (HNO.out (by
                have h : brOk x k code.length = false := by unfold brOk; rw [if_pos HBR.out, HT.out]; simp; omega
                simp [vStep, h]))
              go_wp2_with fail
              go_ret
              exact ⟨congrArg (fun b => Ending.returned (Value.bool b)) HN.out.symm, HW6.out⟩
            · by_cases ht1 : t ≥ code.length
              · have HN := Aside0.mk (HNO.out (by
                  have h : brOk x k code.length = false := by unfold brOk; rw [if_pos HBR.out, HT.out]; simp; omega
                  simp [vStep, h]))
                go_wp2_with fail
                go_ret
                exact ⟨congrArg (fun b => Ending.returned (Value.bool b)) HN.out.symm, HW6.out⟩
              · have HS := Aside0.mk (show vStep code.length refs x k r = some r from by
                  have h : brOk x k code.length = true := by unfold brOk; rw [if_pos HBR.out, HT.out]; simp; omega
                  simp [vStep, h, HIB.out, HRK.out])
                go_wp2_with fail
                refine (HRF _).out.mono ?_
                rintro e w7 ⟨rfl, hd7⟩
                have HW7 := Aside0.mk (below_step HW6.out hd7.below)
                have HO7 := Aside0.mk (blk_below HO6.out hd7.below)
                clear hd7 HRF x0 x1 x2 x3 x4 o0 o1 o2 o3
                go_wp2
                go_roundw
                case rel => exact ⟨k + 1, rfl, by omega, by omega, rs, Ar, cr, rfl, ⟨HW7.out, HO7.out, HV.out.2.2.1, HV.out.2.2.2.1, r, by rw [show (k + 1).toNat = kn + 1 by omega]; exact HST.out.trans HS.out, HRL.out, HRS.out⟩⟩
                case measure => simp [intOf]; omega
          · have HTG := fun W => Aside0.mk (isa_Target.calls x.f0 x.f1 x.f2 x.f3 x.f4 k 0 false W (by rw [target_f x k hk0 (by omega) HIM.out.1 HIM.out.2, if_neg hbr]))
            have HBR := Aside0.mk (show brOk x k code.length = true from by unfold brOk; rw [if_neg hbr])
            clear hbr
            go_wp2_with fail
            refine (HTG _).out.mono ?_
            rintro e w6 ⟨rfl, hb6⟩
            have HW6 := Aside0.mk (below_step HW5.out hb6)
            have HO6 := Aside0.mk (blk_below HO5.out hb6)
            have HX6 := Aside0.mk (blk_below HX5.out hb6)
            clear hb6 HTG x0 x1 x2 x3 x4
            obtain ⟨x0, x1, x2, x3, x4⟩ := blk5 HX6.out
            go_wp2_with fail
            refine (HRF _).out.mono ?_
            rintro e w7 ⟨rfl, hd7⟩
            have HW7 := Aside0.mk (below_step HW6.out hd7.below)
            have HO7 := Aside0.mk (blk_below HO6.out hd7.below)
            clear hd7 HRF x0 x1 x2 x3 x4
            cases hrk : refKind x.f0 with
            | none =>
              have HS := Aside0.mk (show vStep code.length refs x k r = some r from by simp [vStep, HBR.out, HIB.out, hrk])
              clear hrk
              simp only [Option.isSome_none, Option.getD_none]
              go_wp2
              go_roundw
              case rel => exact ⟨k + 1, rfl, by omega, by omega, rs, Ar, cr, rfl, ⟨HW7.out, HO7.out, HV.out.2.2.1, HV.out.2.2.2.1, r, by rw [show (k + 1).toNat = kn + 1 by omega]; exact HST.out.trans HS.out, HRL.out, HRS.out⟩⟩
              case measure => simp [intOf]; omega
            | some l =>
              simp only [Option.isSome_some, Option.getD_some]
              have HRK := Aside0.mk hrk; clear hrk
              by_cases hl0 : rs.length = 0
              · have HN := Aside0.mk (HNO.out (by
                  have h1 : ¬ r < refs.length := by
                    have h2 := HRS.out
                    have h3 : rs.length = refs.length - r := by rw [h2, List.length_drop]
                    omega
                  simp [vStep, HBR.out, HIB.out, HRK.out, h1]))
                go_wp2_with fail
                go_ret
                exact ⟨congrArg (fun b => Ending.returned (Value.bool b)) HN.out.symm, HW7.out⟩
              · have hrn : r < refs.length := by
                  have h2 := HRS.out
                  have h3 : rs.length = refs.length - r := by rw [h2, List.length_drop]
                  omega
                have h0e : rd_T105 rs 0 = rd_T105 refs r := by
                  rw [HRS.out]
                  simp [rd_T105, List.getD_eq_getElem?_getD, List.getElem?_drop]
                obtain ⟨ad2, hA2, y0, y1, y2⟩ := at_T105 (Kd.C_below HV.out.2.2.1 HW7.out) 0 (by omega) (by omega)
                obtain ⟨A', hcut, hcutC⟩ := cut_refs Ar rs.length cr (by omega)
                have HCC := Aside0.mk (hcutC w rs rfl HV.out.2.2.2.1 HV.out.2.2.1)
                have hcr := HV.out.2.2.2.1
                cases hA2
                obtain ⟨a0, ha0⟩ : ∃ a0, (rd_T105 rs 0).f0 = a0 := ⟨_, rfl⟩
                obtain ⟨b0, hb0⟩ : ∃ b0, (rd_T105 rs 0).f2 = b0 := ⟨_, rfl⟩
                rw [ha0] at y0
                rw [hb0] at y2
                have HS : Aside0 (vStep code.length refs x k r = if a0 = k ∧ b0 = l then some (r + 1) else none) := ⟨by
                  rw [← ha0, ← hb0, h0e]
                  simp [vStep, HBR.out, HIB.out, HRK.out, hrn]⟩
                have pr : (0 : Int) < rs.length := by omega
                have PR := eq_true pr
                have hne : ((rs.length : Int) == 0) = false := beq_eq_false_iff_ne.2 (by omega)
                have HRN := Aside0.mk hrn
                clear hcutC h0e ha0 hb0 hrn pr
                have e0 : (ad2.add ((0 : Int).toNat * 3)) = ad2 := by simp [Addr.add]
                rw [e0] at y0 y1 y2
                by_cases hak : a0 = k
                · cases l with
                  | false =>
                    cases b0 with
                    | false =>
                      have HG := Aside0.mk (HS.out.trans (if_pos ⟨hak, rfl⟩))
                      go_wp2_with fail
                      refine ⟨⟨k + 1, rfl, by omega, by omega, rs.drop 1, A', cr - 1, by rw [List.length_drop], ⟨HW7.out, HO7.out, by rw [List.length_drop]; exact HCC.out, by rw [List.length_drop]; omega, r + 1, by rw [show (k + 1).toNat = kn + 1 by omega]; exact HST.out.trans HG.out, HRN.out, by rw [HRS.out, List.drop_drop]⟩⟩, ?_⟩
                      simp [intOf]; omega
                    | true =>
                      have HN := Aside0.mk (HNO.out (by rw [HS.out, if_neg (fun h => Bool.noConfusion h.2)]))
                      go_wp2_with fail
                      go_ret
                      exact ⟨congrArg (fun b => Ending.returned (Value.bool b)) HN.out.symm, HW7.out⟩
                  | true =>
                    cases b0 with
                    | false =>
                      have HN := Aside0.mk (HNO.out (by rw [HS.out, if_neg (fun h => Bool.noConfusion h.2)]))
                      go_wp2_with fail
                      go_ret
                      exact ⟨congrArg (fun b => Ending.returned (Value.bool b)) HN.out.symm, HW7.out⟩
                    | true =>
                      have HG := Aside0.mk (HS.out.trans (if_pos ⟨hak, rfl⟩))
                      go_wp2_with fail
                      refine ⟨⟨k + 1, rfl, by omega, by omega, rs.drop 1, A', cr - 1, by rw [List.length_drop], ⟨HW7.out, HO7.out, by rw [List.length_drop]; exact HCC.out, by rw [List.length_drop]; omega, r + 1, by rw [show (k + 1).toNat = kn + 1 by omega]; exact HST.out.trans HG.out, HRN.out, by rw [HRS.out, List.drop_drop]⟩⟩, ?_⟩
                      simp [intOf]; omega
                · have HN := Aside0.mk (HNO.out (by rw [HS.out, if_neg (fun h => hak h.1)]))
                  go_wp2_with fail
                  go_ret
                  exact ⟨congrArg (fun b => Ending.returned (Value.bool b)) HN.out.symm, HW7.out⟩
      · obtain ⟨r, hvt, hrl, hrs⟩ := HV.out.2.2.2.2
        have hke : k.toNat = code.length := by omega
        rw [hke] at hvt
        have HE : Aside0 (((rs.length : Int) == 0) = objB code data refs) := ⟨by
          unfold objB
          rw [hvt]
          have h1 : rs.length = refs.length - r := by rw [hrs, List.length_drop]
          by_cases hr : r = refs.length
          · have h0 : rs.length = 0 := by omega
            simp [h0, hr]
            omega
          · have h0 : rs.length ≠ 0 := by omega
            have h5 : ((rs.length : Int) == 0) = false := beq_eq_false_iff_ne.2 (by omega)
            have h6 : ((some r : Option Nat) == some refs.length) = false := beq_eq_false_iff_ne.2 (fun h => hr (Option.some.inj h))
            rw [h5, h6, Bool.and_false]⟩
        clear hvt hrl hrs hke
        go_wp2_with fail
        go_ret
        exact ⟨congrArg (fun b => Ending.returned (Value.bool b)) HE.out, HV.out.1⟩
  · have HN : Aside0 (objB code data refs = false) := ⟨by
      unfold objB
      rw [Bool.eq_false_iff]
      intro h
      simp only [Bool.and_eq_true, decide_eq_true_eq] at h
      omega⟩
    by_cases d1 : (code.length : Int) < 1
    · go_enter Try.func14, Try.ntmps14
      go_wp2_with fail
      go_ret
      exact ⟨congrArg (fun b => Ending.returned (Value.bool b)) HN.out.symm, HB1.out⟩
    · by_cases d2 : (code.length : Int) > 4096
      · go_enter Try.func14, Try.ntmps14
        go_wp2_with fail
        go_ret
        exact ⟨congrArg (fun b => Ending.returned (Value.bool b)) HN.out.symm, HB1.out⟩
      · by_cases d3 : data < 0
        · go_enter Try.func14, Try.ntmps14
          go_wp2_with fail
          go_ret
          exact ⟨congrArg (fun b => Ending.returned (Value.bool b)) HN.out.symm, HB1.out⟩
        · have d4 : data > 512 := by omega
          go_enter Try.func14, Try.ntmps14
          go_wp2_with fail
          go_ret
          exact ⟨congrArg (fun b => Ending.returned (Value.bool b)) HN.out.symm, HB1.out⟩
end Go.Proofs.Ytadaopfcgpfiiaa
namespace Go.Proofs.Ytadaopfcgpfiiaa
open Go.RowKit Go.Proofs.YtadaopfcgpfiiaaW.PrintWords Go.Proofs.YtadaopfcgpfiiaaW.PrintLast Go.Proofs.YtadaopfcgpfiiaaW.PrintMore PCg
set_option linter.unusedVariables false
set_option linter.unusedSimpArgs false
theorem and14 (n : Int) : Go.bits .and .i32 n 16383 = n % 16384 := by
  have h : ((BitVec.ofInt 32 n &&& BitVec.ofInt 32 16383).toNat : Int) = n % 16384 := by
    rw [BitVec.toNat_and, BitVec.toNat_ofInt, BitVec.toNat_ofInt, show ((16383 : Int) % ((2 ^ 32 : Nat) : Int)).toNat = 2 ^ 14 - 1 from by decide, Nat.and_two_pow_sub_one_eq_mod]
    omega
  show IntKind.wrap .i32 ((BitVec.ofInt 32 n &&& BitVec.ofInt 32 16383).toNat : Int) = _
  rw [h, IntKind.wrap_i32]
  omega
/-- where the references are, and their kinds -/
def rk (p : Int) : List S53 → List (Int × Bool)
  | [] => []
  | x :: l => match refKind x.f0 with
    | none => rk (p + 1) l
    | some b => (p, b) :: rk (p + 1) l
theorem rk_append (a b : List S53) : ∀ p : Int, rk p (a ++ b) = rk p a ++ rk (p + a.length) b := by
  induction a with
  | nil => intro p; simp [rk]
  | cons x a ih =>
    intro p
    simp only [List.cons_append, rk, List.length_cons]
    rw [ih, show p + 1 + (a.length : Int) = p + ((a.length + 1 : Nat) : Int) by omega]
    cases refKind x.f0 <;> rfl
theorem rd_Instr_get (l : List S53) (k : Nat) (h : k < l.length) : rd_T53 l (k : Int) = l[k] := by
  simp only [rd_T53, List.getD_eq_getElem?_getD, Int.toNat_natCast, List.getElem?_eq_getElem h, Option.getD_some]
theorem vTo_ok {code : List S53} {refs : List S105} (hR : refs.map (fun r => (r.f0, r.f2)) = rk 0 code)
    (hI : ∀ k : Nat, k < code.length → instrB (rd_T53 code k) = true ∧ brOk (rd_T53 code k) k code.length = true) : ∀ k : Nat, k ≤ code.length → vTo code refs k = some (rk 0 (code.take k)).length := by
  intro k
  induction k with
  | zero => intro _; rfl
  | succ k ih =>
    intro hk
    obtain ⟨h1, h2⟩ := hI k (by omega)
    have hx := rd_Instr_get code k (by omega)
    have ht : code.take (k + 1) = code.take k ++ [code[k]] := by rw [List.take_add_one, List.getElem?_eq_getElem (by omega)]; rfl
    have hl : (code.take k).length = k := by simp; omega
    rw [vTo, ih (by omega), Option.bind_some, vStep, h1, h2]
    simp only [Bool.and_self, if_true]
    rw [ht, rk_append, hl, hx]
    simp only [rk]
    rw [hx] at h1 h2
    cases hr : refKind code[k].f0 with
    | none => simp
    | some b =>
      have hd : rk 0 code = rk 0 (code.take k) ++ ((k : Int), b) :: rk (k + 1) (code.drop (k + 1)) := by
        have e : code = code.take k ++ (code[k] :: code.drop (k + 1)) := by
          rw [List.getElem_cons_drop]; exact (List.take_append_drop k code).symm
        conv => lhs; rw [e]
        rw [rk_append, hl]
        simp only [rk, hr, Int.zero_add]
      have hg : (refs.map (fun r => (r.f0, r.f2)))[(rk 0 (code.take k)).length]? = some ((k : Int), b) := by
        rw [hR, hd, List.getElem?_append_right (Nat.le_refl _), Nat.sub_self]
        rfl
      rw [List.getElem?_map] at hg
      obtain ⟨r, hr1, hr2⟩ := Option.map_eq_some_iff.1 hg
      obtain ⟨hlt, hge⟩ := List.getElem?_eq_some_iff.1 hr1
      have hrd : rd_T105 refs ((rk 0 (code.take k)).length : Int) = r := by
        simp only [rd_T105, List.getD_eq_getElem?_getD, Int.toNat_natCast, hr1, Option.getD_some]
      injection hr2 with q1 q2
      simp only [hrd]
      rw [if_pos ⟨hlt, q1, q2⟩]
      simp
theorem objB_ok {code : List S53} {data : Int} {refs : List S105} (h1 : 1 ≤ code.length) (h2 : code.length ≤ 4096) (h3 : 0 ≤ data) (h4 : data ≤ 512) (hR : refs.map (fun r => (r.f0, r.f2)) = rk 0 code)
    (hI : ∀ k : Nat, k < code.length → instrB (rd_T53 code k) = true ∧ brOk (rd_T53 code k) k code.length = true) : objB code data refs = true := by
  have h := vTo_ok hR hI code.length (Nat.le_refl _)
  have hl : refs.length = (rk 0 code).length := by rw [← hR]; simp
  rw [List.take_length] at h
  simp [objB, h1, h2, h3, h4, h, hl]
/-- an instruction of a generator: valid, and no branch -/
def okI (x : S53) : Prop := instrB x = true ∧ ¬(22 ≤ x.f0 ∧ x.f0 ≤ 24)
/-- code and references are added together -/
def GStep (st st' : GSt) : Prop := ∃ l rl, st'.code = st.code ++ l ∧ st'.refs = st.refs ++ rl ∧ st'.starts = st.starts ∧ st'.patches = st.patches ∧ (∀ x ∈ l, okI x) ∧ rl.map (fun r => (r.f0, r.f2)) = rk st.code.length l
theorem GStep.refl (st : GSt) : GStep st st := ⟨[], [], by simp, by simp, rfl, rfl, by simp, rfl⟩
theorem GStep.trans {a b c : GSt} (h : GStep a b) (k : GStep b c) : GStep a c := by
  obtain ⟨l, rl, h1, h2, h3, h4, h5, h6⟩ := h
  obtain ⟨l', rl', k1, k2, k3, k4, k5, k6⟩ := k
  refine ⟨l ++ l', rl ++ rl', by rw [k1, h1, List.append_assoc], by rw [k2, h2, List.append_assoc], k3.trans h3, k4.trans h4, fun x hx => ?_, ?_⟩
  · rcases List.mem_append.1 hx with h | h
    · exact h5 x h
    · exact k5 x h
  · rw [List.map_append, h6, k6, rk_append, h1, List.length_append]
    rw [show ((a.code.length + l.length : Nat) : Int) = (a.code.length : Int) + l.length by omega]
theorem rk_none {l : List S53} (h : ∀ x ∈ l, refKind x.f0 = none) : ∀ p, rk p l = [] := by
  induction l with
  | nil => intro p; rfl
  | cons x l ih => intro p; simp only [rk, h x (List.mem_cons_self ..)]; exact ih (fun y hy => h y (List.mem_cons_of_mem _ hy)) _
theorem gs_emit {st : GSt} {l : List S53} (h : ∀ x ∈ l, okI x ∧ refKind x.f0 = none) : GStep st (st.emit l) := by
  refine ⟨l, [], rfl, by simp [GSt.emit], rfl, rfl, fun x hx => (h x hx).1, ?_⟩
  rw [rk_none (fun x hx => (h x hx).2)]
  rfl
theorem gs_refer {st : GSt} {x : S53} {nm : ByteArray} (h : okI x) (hk : refKind x.f0 = some (isLock x.f0)) : GStep st (st.refer x nm) := by
  refine ⟨[x], [⟨st.code.length, nm, isLock x.f0⟩], rfl, rfl, rfl, rfl, fun y hy => ?_, ?_⟩
  · rw [List.mem_singleton.1 hy]; exact h
  · simp [rk, hk]
/-- the places are good -/
def PlOk (regs : Int) (pl : List (Int × Int)) : Prop := ∀ v, 0 ≤ v → v < regs → (((rdTwo pl v).2 = -1 ∧ 2 ≤ (rdTwo pl v).1 ∧ (rdTwo pl v).1 ≤ 9) ∨ ((rdTwo pl v).1 = 0 ∧ 0 ≤ (rdTwo pl v).2 ∧ (rdTwo pl v).2 ≤ 10000))
theorem useReg_in {regs : Int} {pl : List (Int × Int)} (h : PlOk regs pl) {v : Int} (h0 : 0 ≤ v) (h1 : v < regs) {into : Int} (hi : 0 ≤ into ∧ into < 16) : 0 ≤ useReg (rdTwo pl v) into ∧ useReg (rdTwo pl v) into < 16 := by
  have := h v h0 h1
  unfold useReg
  split <;> omega
theorem useCode_ok {regs : Int} {pl : List (Int × Int)} (h : PlOk regs pl) {sp : Int} (s0 : 0 ≤ sp) (s1 : sp ≤ 1000) {v : Int} (h0 : 0 ≤ v) (h1 : v < regs) {into : Int} (hi : 0 ≤ into ∧ into < 16) :
    ∀ x ∈ useCode sp (rdTwo pl v) into, okI x ∧ refKind x.f0 = none := by
  have := h v h0 h1
  unfold useCode
  split
  · intro x hx; cases hx
  · intro x hx
    rw [List.mem_singleton.1 hx]
    refine ⟨⟨?_, by simp⟩, by simp [refKind]⟩
    simp [instrB, fmtOf, regB]
    omega
theorem storeCode_ok {regs : Int} {pl : List (Int × Int)} (h : PlOk regs pl) {sp : Int} (s0 : 0 ≤ sp) (s1 : sp ≤ 1000) {v : Int} (h0 : 0 ≤ v) (h1 : v < regs) :
    ∀ x ∈ storeCode sp (rdTwo pl v), okI x ∧ refKind x.f0 = none := by
  have := h v h0 h1
  unfold storeCode
  split
  · intro x hx; cases hx
  · intro x hx
    rw [List.mem_singleton.1 hx]
    refine ⟨⟨?_, by simp⟩, by simp [refKind]⟩
    simp [instrB, fmtOf, regB]
    omega
theorem constCode_ok {d n : Int} (hd : 0 ≤ d ∧ d < 16) (hn : -2147483648 ≤ n ∧ n ≤ 2147483647) : ∀ x ∈ constCode d n, okI x ∧ refKind x.f0 = none := by
  unfold constCode
  split
  · intro x hx; cases hx
  split
  · intro x hx; cases hx
  split
  · intro x hx
    rw [List.mem_singleton.1 hx, w64 (by omega)]
    refine ⟨⟨?_, by simp⟩, by simp [refKind]⟩
    simp [instrB, fmtOf, regB]
    omega
  · rw [and14, w64 (n := n / 16384) (by omega), w64 (n := n % 16384) (by omega)]
    intro x hx
    simp only [List.mem_cons, List.not_mem_nil, or_false] at hx
    rcases hx with rfl | rfl | rfl
    all_goals
      refine ⟨⟨?_, by simp⟩, by simp [refKind]⟩
      simp [instrB, fmtOf, regB]
      omega
theorem ok3 {o d x y : Int} (ho : 2 ≤ o ∧ o ≤ 13) (hd : 0 ≤ d ∧ d < 16) (hx : 0 ≤ x ∧ x < 16) (hy : 0 ≤ y ∧ y < 16) : okI ⟨o, d, x, y, 0⟩ ∧ refKind o = none := by
  refine ⟨⟨?_, by dsimp only; omega⟩, by unfold refKind; rw [if_neg (by omega), if_neg (by omega)]⟩
  simp [instrB, fmtOf, regB, ho]
  omega
theorem binCode_ok {op d x y : Int} (ho : 6 ≤ op ∧ op ≤ 23) (hd : 0 ≤ d ∧ d < 16) (hx : 0 ≤ x ∧ x < 16) (hy : 0 ≤ y ∧ y < 16) : ∀ z ∈ binCode op d x y, okI z ∧ refKind z.f0 = none := by
  unfold binCode
  repeat' split
  all_goals
    intro z hz
    simp only [List.mem_cons, List.not_mem_nil, or_false] at hz
  all_goals first
    | (rcases hz with rfl | rfl | rfl | rfl <;> exact ok3 (by omega) (by omega) (by omega) (by omega))
    | (rcases hz with rfl | rfl | rfl <;> exact ok3 (by omega) (by omega) (by omega) (by omega))
    | (rcases hz with rfl | rfl <;> exact ok3 (by omega) (by omega) (by omega) (by omega))
    | (subst hz; exact ok3 (by omega) (by omega) (by omega) (by omega))
theorem all_append {P : S53 → Prop} {a b : List S53} (ha : ∀ x ∈ a, P x) (hb : ∀ x ∈ b, P x) : ∀ x ∈ a ++ b, P x := fun x hx => (List.mem_append.1 hx).elim (ha x) (hb x)
theorem all_one {P : S53 → Prop} {a : S53} (h : P a) : ∀ x ∈ [a], P x := fun x hx => by rw [List.mem_singleton.1 hx]; exact h
/-- what insOk says of each opcode -/
theorem insOk_cases {regs : Int} {arrs shared : List S44} {i : S51} (h : insOk regs arrs shared i = true) :
    (i.f0 = 1 ∧ (0 ≤ i.f1 ∧ i.f1 < regs) ∧ -2147483648 ≤ i.f4 ∧ i.f4 ≤ 2147483647) ∨ (i.f0 = 2 ∧ (0 ≤ i.f1 ∧ i.f1 < regs) ∧ 0 ≤ i.f2 ∧ i.f2 < regs) ∨
    (i.f0 = 3 ∧ (0 ≤ i.f1 ∧ i.f1 < regs) ∧ (0 ≤ i.f2 ∧ i.f2 < regs) ∧ (0 ≤ i.f3 ∧ i.f3 < regs) ∧ 6 ≤ i.f4 ∧ i.f4 ≤ 23) ∨ (i.f0 = 4 ∧ (0 ≤ i.f1 ∧ i.f1 < regs) ∧ 0 ≤ i.f2 ∧ i.f2 < regs) ∨
    (i.f0 = 5 ∧ (0 ≤ i.f2 ∧ i.f2 < regs) ∧ 0 ≤ i.f3 ∧ i.f3 < regs) ∨ (i.f0 = 6 ∧ (0 ≤ i.f1 ∧ i.f1 < regs) ∧ 0 ≤ i.f2 ∧ i.f2 < regs) ∨ (i.f0 = 7 ∧ (0 ≤ i.f2 ∧ i.f2 < regs) ∧ 0 ≤ i.f3 ∧ i.f3 < regs) ∨
    (i.f0 = 8 ∧ (0 ≤ i.f2 ∧ i.f2 < regs) ∧ 1 ≤ i.f4 ∧ i.f4 ≤ 131071) ∨ (i.f0 = 9 ∧ (0 ≤ i.f1 ∧ i.f1 < regs) ∧ 0 ≤ i.f4 ∧ i.f4 ≤ 7) ∨ (i.f0 = 10 ∧ (0 ≤ i.f2 ∧ i.f2 < regs) ∧ 0 ≤ i.f4 ∧ i.f4 ≤ 7) ∨ i.f0 = 11 ∨ i.f0 = 12 ∨
    (i.f0 = 13 ∧ 0 ≤ i.f4 ∧ i.f4 ≤ 3) ∨ (i.f0 = 14 ∧ 0 ≤ i.f4 ∧ i.f4 ≤ 3) ∨ (i.f0 = 15 ∧ (0 ≤ i.f1 ∧ i.f1 < regs) ∧ 0 ≤ i.f4 ∧ i.f4 ≤ 3) ∨ (i.f0 = 16 ∧ (0 ≤ i.f2 ∧ i.f2 < 4) ∧ 1 ≤ i.f4 ∧ i.f4 ≤ 131071) := by
  unfold insOk xOk at h
  by_cases h16 : i.f0 = 1 ∨ i.f0 = 2 ∨ i.f0 = 3 ∨ i.f0 = 4 ∨ i.f0 = 5 ∨ i.f0 = 6 ∨ i.f0 = 7 ∨ i.f0 = 8 ∨ i.f0 = 9 ∨ i.f0 = 10 ∨ i.f0 = 11 ∨ i.f0 = 12 ∨ i.f0 = 13 ∨ i.f0 = 14 ∨ i.f0 = 15 ∨ i.f0 = 16
  · rcases h16 with e | e | e | e | e | e | e | e | e | e | e | e | e | e | e | e <;> rw [e] at h <;> simp [shp, regOk] at h <;> simp [e] <;> omega
  · simp only [not_or] at h16
    simp [shp, h16] at h
theorem genIns_ok {regs : Int} {arrs shared : List S44} {i : S51} (h : insOk regs arrs shared i = true) {pl : List (Int × Int)} (hp : PlOk regs pl) {sp : Int} (s0 : 0 ≤ sp) (s1 : sp ≤ 1000)
    {m : ByteArray → Int} (hm : ∀ s, 0 ≤ m s ∧ m s ≤ 1000) (st : GSt) : GStep st (genIns sp pl m st i) := by
  have u1 : ∀ {v : Int}, (0 ≤ v ∧ v < regs) → ∀ x ∈ useCode sp (rdTwo pl v) 14, okI x ∧ refKind x.f0 = none := fun hv => useCode_ok hp s0 s1 hv.1 hv.2 (by omega)
  have u2 : ∀ {v : Int}, (0 ≤ v ∧ v < regs) → ∀ x ∈ useCode sp (rdTwo pl v) 15, okI x ∧ refKind x.f0 = none := fun hv => useCode_ok hp s0 s1 hv.1 hv.2 (by omega)
  have r1 : ∀ {v : Int}, (0 ≤ v ∧ v < regs) → 0 ≤ useReg (rdTwo pl v) 14 ∧ useReg (rdTwo pl v) 14 < 16 := fun hv => useReg_in hp hv.1 hv.2 (by omega)
  have r2 : ∀ {v : Int}, (0 ≤ v ∧ v < regs) → 0 ≤ useReg (rdTwo pl v) 15 ∧ useReg (rdTwo pl v) 15 < 16 := fun hv => useReg_in hp hv.1 hv.2 (by omega)
  have t1 : ∀ {v : Int} (st : GSt), (0 ≤ v ∧ v < regs) → GStep st (st.emit (storeCode sp (rdTwo pl v))) := fun st hv => gs_emit (storeCode_ok hp s0 s1 hv.1 hv.2)
  rcases insOk_cases h with ⟨e, h1, h4⟩ | ⟨e, h1, h2⟩ | ⟨e, h1, h2, h3, h4⟩ | ⟨e, h1, h2⟩ | ⟨e, h2, h3⟩ | ⟨e, h1, h2⟩ | ⟨e, h2, h3⟩ | ⟨e, h2, h4⟩ | ⟨e, h1, h4⟩ | ⟨e, h2, h4⟩ | e | e | ⟨e, h4⟩ | ⟨e, h4⟩ | ⟨e, h1, h4⟩ | ⟨e, h2, h4⟩
  all_goals simp only [genIns, genDef, genDef1, e, if_true, reduceIte, Int.reduceEq, if_false]
  · refine GStep.trans (gs_emit ?_) (t1 _ h1)
    rw [IntWalk.wrap32_in _ h4]
    exact constCode_ok (r1 h1) h4
  · refine GStep.trans (gs_emit (all_append (u1 h2) (all_one ?_))) (t1 _ h1)
    have := r1 h1; have := r1 h2
    refine ⟨⟨?_, by simp⟩, by simp [refKind]⟩
    simp [instrB, fmtOf, regB]; omega
  · exact GStep.trans (gs_emit (all_append (all_append (u1 h2) (u2 h3)) (binCode_ok h4 (r1 h1) (r1 h2) (r2 h3)))) (t1 _ h1)
  · refine GStep.trans (gs_emit (all_append (u1 h2) (all_one ?_))) (t1 _ h1)
    have := r1 h1; have := r1 h2; have := hm i.f5
    refine ⟨⟨?_, by simp⟩, by simp [refKind]⟩
    simp [instrB, fmtOf, regB]; omega
  · refine gs_emit (all_append (all_append (u1 h2) (u2 h3)) (all_one ?_))
    have := r1 h2; have := r2 h3; have := hm i.f5
    refine ⟨⟨?_, by simp⟩, by simp [refKind]⟩
    simp [instrB, fmtOf, regB]; omega
  · refine GStep.trans (GStep.trans (gs_emit (u1 h2)) (gs_refer ⟨?_, by simp⟩ rfl)) (t1 _ h1)
    have := r1 h1; have := r1 h2
    simp [instrB, fmtOf, regB]; omega
  · refine GStep.trans (gs_emit (all_append (u1 h2) (u2 h3))) (gs_refer ⟨?_, by simp⟩ rfl)
    have := r1 h2; have := r2 h3
    simp [instrB, fmtOf, regB]; omega
  · refine gs_emit (all_append (u1 h2) (all_one ?_))
    have := r1 h2
    refine ⟨⟨?_, by simp⟩, by simp [refKind]⟩
    simp [instrB, fmtOf, regB]; omega
  · refine GStep.trans (gs_emit (all_one ?_)) (t1 _ h1)
    have := r1 h1
    refine ⟨⟨?_, by simp⟩, by simp [refKind]⟩
    simp [instrB, fmtOf, regB]; omega
  · refine gs_emit (all_append (u1 h2) (all_one ?_))
    have := r1 h2
    refine ⟨⟨?_, by simp⟩, by simp [refKind]⟩
    simp [instrB, fmtOf, regB]; omega
  · exact gs_refer ⟨rfl, by simp⟩ rfl
  · exact gs_refer ⟨rfl, by simp⟩ rfl
  · refine gs_emit (all_one ?_)
    refine ⟨⟨?_, by simp⟩, by simp [refKind]⟩
    simp [instrB, fmtOf, regB]; omega
  · refine gs_emit (all_one ?_)
    refine ⟨⟨?_, by simp⟩, by simp [refKind]⟩
    simp [instrB, fmtOf, regB]; omega
  · refine GStep.trans (gs_emit (all_one ?_)) (t1 _ h1)
    have := r1 h1
    refine ⟨⟨?_, by simp⟩, by simp [refKind]⟩
    simp [instrB, fmtOf, regB]; omega
  · refine gs_emit (all_one ?_)
    refine ⟨⟨?_, by simp⟩, by simp [refKind]⟩
    simp [instrB, fmtOf, regB]; omega
theorem genCode_ok {regs : Int} {arrs shared : List S44} {pl : List (Int × Int)} (hp : PlOk regs pl) {sp : Int} (s0 : 0 ≤ sp) (s1 : sp ≤ 1000)
    {m : ByteArray → Int} (hm : ∀ s, 0 ≤ m s ∧ m s ≤ 1000) (l : List S51) (h : ∀ i ∈ l, insOk regs arrs shared i = true) : ∀ st : GSt, GStep st (genCode sp pl m st l) := by
  induction l with
  | nil => intro st; exact GStep.refl _
  | cons i l ih => intro st; exact (genIns_ok (h i (List.mem_cons_self ..)) hp s0 s1 hm st).trans (ih (fun j hj => h j (List.mem_cons_of_mem _ hj)) _)
/-- the state so far: the references fit, the instructions are valid, every branch is a patch, the patches are branches to blocks -/
structure GOk (nb : Int) (st : GSt) : Prop where
  refs : st.refs.map (fun r => (r.f0, r.f2)) = rk 0 st.code
  ins : ∀ x ∈ st.code, instrB x = true
  brs : ∀ k : Nat, k < st.code.length → 22 ≤ (rd_T53 st.code k).f0 ∧ (rd_T53 st.code k).f0 ≤ 24 → ∃ p ∈ st.patches, p.1 = k
  pat : ∀ p ∈ st.patches, 0 ≤ p.1 ∧ p.1 < st.code.length ∧ ((rd_T53 st.code p.1).f0 = 23 ∨ (rd_T53 st.code p.1).f0 = 24) ∧ 0 ≤ p.2 ∧ p.2 < nb
theorem rdi_left (a b : List S53) (k : Int) (h0 : 0 ≤ k) (h : k < a.length) : rd_T53 (a ++ b) k = rd_T53 a k := by
  simp only [rd_T53, List.getD_eq_getElem?_getD, List.getElem?_append_left (show k.toNat < a.length by omega)]
theorem rdi_right (a b : List S53) (k : Nat) (h : k < b.length) : rd_T53 (a ++ b) ((a.length + k : Nat) : Int) = b[k] := by
  rw [rd_Instr_get _ _ (by simp; omega), List.getElem_append_right (by omega)]
  simp
theorem GOk.step {nb : Int} {st st' : GSt} (h : GOk nb st) (s : GStep st st') : GOk nb st' := by
  obtain ⟨l, rl, h1, h2, h3, h4, h5, h6⟩ := s
  refine ⟨?_, fun x hx => ?_, fun k hk hb => ?_, fun p hp => ?_⟩
  · rw [h2, List.map_append, h.refs, h6, h1, rk_append, Int.zero_add]
  · rw [h1] at hx
    exact (List.mem_append.1 hx).elim (h.ins x) (fun hx => (h5 x hx).1)
  · rw [h1] at hk hb
    rw [h4]
    by_cases hlt : k < st.code.length
    · rw [rdi_left _ _ _ (by omega) (by omega)] at hb
      exact h.brs k hlt hb
    · exfalso
      obtain ⟨d, rfl⟩ : ∃ d, k = st.code.length + d := ⟨k - st.code.length, by omega⟩
      rw [List.length_append] at hk
      rw [rdi_right _ _ _ (by omega)] at hb
      exact (h5 _ (List.getElem_mem (by omega))).2 hb
  · rw [h4] at hp
    obtain ⟨a, b, c, d⟩ := h.pat p hp
    rw [h1, rdi_left _ _ _ a b]
    exact ⟨a, by rw [List.length_append]; omega, c, d⟩
theorem GOk.leap {nb : Int} {st : GSt} (h : GOk nb st) {x : S53} {b : Int} (hx : instrB x = true) (ho : x.f0 = 23 ∨ x.f0 = 24) (h0 : 0 ≤ b) (h1 : b < nb) : GOk nb (st.leap x b) := by
  have hend : rd_T53 (st.code ++ [x]) (st.code.length : Int) = x := by
    have := rdi_right st.code [x] 0 (by simp)
    simpa using this
  refine ⟨?_, fun y hy => ?_, fun k hk hb => ?_, fun p hp => ?_⟩
  · have hn : refKind x.f0 = none := by rcases ho with e | e <;> rw [e] <;> rfl
    simp only [GSt.leap]
    rw [rk_append, h.refs]
    simp [rk, hn]
  · exact (List.mem_append.1 hy).elim (h.ins y) (fun hy => by rw [List.mem_singleton.1 hy]; exact hx)
  · simp only [GSt.leap, List.length_append, List.length_cons, List.length_nil] at hk hb ⊢
    by_cases hlt : k < st.code.length
    · rw [rdi_left _ _ _ (by omega) (by omega)] at hb
      obtain ⟨p, hp, e⟩ := h.brs k hlt hb
      exact ⟨p, List.mem_append_left _ hp, e⟩
    · obtain rfl : k = st.code.length := by omega
      exact ⟨_, List.mem_append_right _ (List.mem_singleton_self _), rfl⟩
  · simp only [GSt.leap, List.mem_append, List.mem_singleton] at hp ⊢
    rcases hp with hp | rfl
    · obtain ⟨a, b', c, d⟩ := h.pat p hp
      rw [rdi_left _ _ _ a b']
      exact ⟨a, by rw [List.length_append]; omega, c, d⟩
    · dsimp only
      rw [hend]
      exact ⟨by omega, by simp; omega, ho, h0, h1⟩
theorem GOk.start {nb : Int} {st : GSt} (h : GOk nb st) : GOk nb st.start := ⟨h.refs, h.ins, h.brs, h.pat⟩
theorem genBlk_ok {nb regs : Int} {arrs shared : List S44} {pl : List (Int × Int)} (hp : PlOk regs pl) {sp : Int} (s0 : 0 ≤ sp) (s1 : sp ≤ 1000)
    {m : ByteArray → Int} (hm : ∀ s, 0 ≤ m s ∧ m s ≤ 1000) {st : GSt} (h : GOk nb st) (k : Int) (b : S49) (hb : blkOk regs nb arrs shared b = true) : GOk nb (genBlk sp pl m st k b) := by
  simp only [blkOk, Bool.and_eq_true, List.all_eq_true] at hb
  obtain ⟨he, hi⟩ := hb
  have h2 := h.start.step (genCode_ok hp s0 s1 hm b.f0 hi st.start)
  unfold genBlk
  simp only
  generalize genCode sp pl m st.start b.f0 = st2 at *
  unfold endOk tgtOk at he
  split
  · exact h2.step (gs_emit (all_one ⟨⟨rfl, by simp⟩, rfl⟩))
  · split
    · rename_i g3 g2
      rw [if_neg (by omega), if_pos g2] at he
      simp at he
      have hx : 0 ≤ b.f2 ∧ b.f2 < regs := by omega
      have h3 := (h2.step (gs_emit (useCode_ok hp s0 s1 hx.1 hx.2 (into := 14) (by omega)))).leap (x := ⟨23, useReg (rdTwo pl b.f2) 14, 0, 0, 0⟩) (b := b.f3) (by
        have := useReg_in hp hx.1 hx.2 (into := 14) (by omega)
        simp [instrB, fmtOf, regB]; omega) (.inl rfl) (by omega) (by omega)
      split
      · exact h3
      · exact h3.leap rfl (.inr rfl) (by omega) (by omega)
    · rename_i g3 g2
      split
      · exact h2
      · have g1 : b.f1 = 1 := by
          by_cases g1 : b.f1 = 1
          · exact g1
          · rw [if_neg g1, if_neg g2] at he
            simp at he
            exact absurd he.1.1.1 g3
        rw [if_pos g1] at he
        simp at he
        exact h2.leap rfl (.inr rfl) (by omega) (by omega)
end Go.Proofs.Ytadaopfcgpfiiaa
namespace Go.Proofs.Ytadaopfcgpfiiaa
open Go.RowKit Go.Proofs.YtadaopfcgpfiiaaW.PrintWords Go.Proofs.YtadaopfcgpfiiaaW.PrintLast Go.Proofs.YtadaopfcgpfiiaaW.PrintMore PCg
set_option linter.unusedVariables false
set_option linter.unusedSimpArgs false
theorem rdi_set (c : List S53) (v : S53) (i : Int) (k : Nat) (h0 : 0 ≤ i) (h1 : i < c.length) : rd_T53 (c.set i.toNat v) (k : Int) = if i = k then v else rd_T53 c k := by
  simp only [rd_T53, List.getD_eq_getElem?_getD, Int.toNat_natCast, List.getElem?_set]
  by_cases e : i = k
  · rw [if_pos e, if_pos (by omega), if_pos (by omega)]; rfl
  · rw [if_neg e, if_neg (by omega)]
/-- an instruction, but for its number -/
def same4 (a b : S53) : Prop := a.f0 = b.f0 ∧ a.f1 = b.f1 ∧ a.f2 = b.f2 ∧ a.f3 = b.f3
theorem fold_patch (starts : List Int) : ∀ (l : List (Int × Int)) (c : List S53), (∀ p ∈ l, 0 ≤ p.1 ∧ p.1 < c.length) →
    (l.foldl (patch1 starts) c).length = c.length ∧ ∀ k : Nat, k < c.length → same4 (rd_T53 (l.foldl (patch1 starts) c) k) (rd_T53 c k) ∧
      ((∃ p ∈ l, p.1 = k ∧ (rd_T53 (l.foldl (patch1 starts) c) k).f4 = rd starts p.2 - k - 1) ∨ ((∀ p ∈ l, p.1 ≠ k) ∧ rd_T53 (l.foldl (patch1 starts) c) k = rd_T53 c k)) := by
  intro l
  induction l with
  | nil => intro c _; exact ⟨rfl, fun k hk => ⟨⟨rfl, rfl, rfl, rfl⟩, .inr ⟨by simp, rfl⟩⟩⟩
  | cons p l ih =>
    intro c hp
    obtain ⟨p0, p1⟩ := hp p (List.mem_cons_self ..)
    have hl : (patch1 starts c p).length = c.length := by simp [patch1]
    obtain ⟨i1, i2⟩ := ih (patch1 starts c p) (fun q hq => by rw [hl]; exact hp q (List.mem_cons_of_mem _ hq))
    simp only [List.foldl_cons]
    refine ⟨i1.trans hl, fun k hk => ?_⟩
    obtain ⟨hs, hc⟩ := i2 k (by omega)
    have hr : rd_T53 (patch1 starts c p) k = if p.1 = k then ⟨(rd_T53 c p.1).f0, (rd_T53 c p.1).f1, (rd_T53 c p.1).f2, (rd_T53 c p.1).f3, rd starts p.2 - p.1 - 1⟩ else rd_T53 c k := rdi_set c _ p.1 k p0 p1
    by_cases e : p.1 = k
    · rw [if_pos e] at hr
      refine ⟨?_, ?_⟩
      · rw [hr, e] at hs
        exact hs
      · rcases hc with ⟨q, hq, e1, e2⟩ | ⟨_, e2⟩
        · exact .inl ⟨q, List.mem_cons_of_mem _ hq, e1, e2⟩
        · exact .inl ⟨p, List.mem_cons_self .., e, by rw [e2, hr, e]⟩
    · rw [if_neg e] at hr
      rw [hr] at hs
      refine ⟨hs, ?_⟩
      rcases hc with ⟨q, hq, e1, e2⟩ | ⟨e1, e2⟩
      · exact .inl ⟨q, List.mem_cons_of_mem _ hq, e1, e2⟩
      · exact .inr ⟨fun q hq => by rcases List.mem_cons.1 hq with rfl | hq; exact e; exact e1 q hq, e2.trans hr⟩
theorem rk_congr : ∀ (a b : List S53) (p : Int), a.map (fun x => x.f0) = b.map (fun x => x.f0) → rk p a = rk p b := by
  intro a
  induction a with
  | nil => intro b p h; cases b with | nil => rfl | cons _ _ => simp at h
  | cons x a ih =>
    intro b p h
    cases b with
    | nil => simp at h
    | cons y b =>
      simp only [List.map_cons, List.cons.injEq] at h
      simp only [rk, h.1, ih b (p + 1) h.2]
theorem map_f0 {a b : List S53} (hl : a.length = b.length) (h : ∀ k : Nat, k < b.length → (rd_T53 a k).f0 = (rd_T53 b k).f0) : a.map (fun x => x.f0) = b.map (fun x => x.f0) := by
  refine List.ext_getElem (by simp [hl]) (fun k h1 h2 => ?_)
  simp only [List.length_map] at h1 h2
  have := h k h2
  rw [rd_Instr_get _ _ h1, rd_Instr_get _ _ h2] at this
  simpa using this
theorem patch_f0 {nb : Int} {st : GSt} (h : GOk nb st) : (patchAll st).map (fun x => x.f0) = st.code.map (fun x => x.f0) := by
  obtain ⟨h1, h2⟩ := fold_patch st.starts st.patches st.code (fun p hp => ⟨(h.pat p hp).1, (h.pat p hp).2.1⟩)
  exact map_f0 h1 (fun k hk => (h2 k hk).1.1)
theorem patch_len {nb : Int} {st : GSt} (h : GOk nb st) : (patchAll st).length = st.code.length :=
  (fold_patch st.starts st.patches st.code (fun p hp => ⟨(h.pat p hp).1, (h.pat p hp).2.1⟩)).1
theorem instrB_br {x y : S53} (h : instrB x = true) (e : same4 y x) (ho : 22 ≤ x.f0 ∧ x.f0 ≤ 24) (h4 : -131072 ≤ y.f4 ∧ y.f4 ≤ 131071) : instrB y = true := by
  obtain ⟨e0, e1, e2, e3⟩ := e
  unfold instrB at h ⊢
  rw [e0, e1, e2, e3]
  have h3 : x.f0 = 22 ∨ x.f0 = 23 ∨ x.f0 = 24 := by omega
  rcases h3 with e | e | e <;> rw [e] at h ⊢ <;> simp [fmtOf] at h ⊢ <;> exact ⟨h.1, h4⟩
theorem objB_patch {nb : Int} {st : GSt} (h : GOk nb st) (hs : ∀ b : Int, 0 ≤ b → b < nb → 0 ≤ rd st.starts b ∧ rd st.starts b < st.code.length) (h1 : 1 ≤ st.code.length) (h2 : st.code.length ≤ 4096) {data : Int} (d0 : 0 ≤ data) (d1 : data ≤ 512) :
    objB (patchAll st) data st.refs = true := by
  have hl := patch_len h
  obtain ⟨_, hf⟩ := fold_patch st.starts st.patches st.code (fun p hp => ⟨(h.pat p hp).1, (h.pat p hp).2.1⟩)
  refine objB_ok (by omega) (by omega) d0 d1 ?_ (fun k hk => ?_)
  · rw [h.refs]
    exact rk_congr _ _ 0 (patch_f0 h).symm
  · rw [hl] at hk
    obtain ⟨hsm, hc⟩ := hf k hk
    have hx : instrB (rd_T53 st.code k) = true := by rw [rd_Instr_get _ _ hk]; exact h.ins _ (List.getElem_mem hk)
    rw [hl]
    rcases hc with ⟨p, hp, e1, e2⟩ | ⟨e1, e2⟩
    · obtain ⟨a, b, c, d, e⟩ := h.pat p hp
      obtain ⟨s0, s1⟩ := hs p.2 d e
      rw [e1] at c
      change (rd_T53 (patchAll st) k).f4 = _ at e2
      refine ⟨instrB_br hx hsm (by omega) ?_, ?_⟩
      · change -131072 ≤ (rd_T53 (patchAll st) k).f4 ∧ (rd_T53 (patchAll st) k).f4 ≤ 131071
        rw [e2]; omega
      · unfold brOk
        split
        · rw [e2]; simp; omega
        · rfl
    · change rd_T53 (patchAll st) k = _ at e2
      rw [e2]
      refine ⟨hx, ?_⟩
      unfold brOk
      rw [if_neg]
      intro hb
      obtain ⟨p, hp, e⟩ := h.brs k hk hb
      exact e1 p hp e
theorem plOk_of {regs : Int} {places : List (Int × Int)} {slots : Int} (h : AllocOk regs places slots) : PlOk regs places := by
  intro v h0 h1
  obtain ⟨hl, s0, s1, hp⟩ := h
  have hm : rdTwo places v ∈ places := by
    simp only [rdTwo, List.getD_eq_getElem?_getD, List.getElem?_eq_getElem (show v.toNat < places.length by omega), Option.getD_some]
    exact List.getElem_mem _
  have := hp _ hm
  omega
theorem rd_Blk_get (l : List S49) (k : Nat) (h : k < l.length) : rd_T49 l (k : Int) = l[k] := by
  simp only [rd_T49, List.getD_eq_getElem?_getD, Int.toNat_natCast, List.getElem?_eq_getElem h, Option.getD_some]
theorem genTo_ok {regs : Int} {arrs : List S44} {blks : List S49} {shared : List S44} (h : irOk regs arrs blks shared = true) {pl : List (Int × Int)} (hp : PlOk regs pl) {sp : Int} (s0 : 0 ≤ sp) (s1 : sp ≤ 1000)
    {m : ByteArray → Int} (hm : ∀ s, 0 ≤ m s ∧ m s ≤ 1000) {st : GSt} (hst : GOk blks.length st) (k : Nat) (hk : k ≤ blks.length) : GOk blks.length (genTo sp pl m blks st k) := by
  induction k with
  | zero => exact hst
  | succ k ih => exact genBlk_ok hp s0 s1 hm (ih (by omega)) k _ ((irOk_facts h).2.2.2.2.2.2 k (by omega))
theorem genStores_ok {sp : Int} (s0 : 0 ≤ sp) (n : Nat) (hn : sp + n ≤ 512) : ∀ x ∈ genStores sp n, okI x ∧ refKind x.f0 = none := by
  intro x hx
  obtain ⟨s, hs, rfl⟩ := List.mem_map.1 hx
  have := List.mem_range.1 hs
  refine ⟨⟨?_, by simp⟩, by simp [refKind]⟩
  simp [instrB, fmtOf, regB]
  omega
theorem genBlk_more {nb regs : Int} {arrs shared : List S44} (sp : Int) (pl : List (Int × Int)) (m : ByteArray → Int) (st : GSt) (k : Int) (b : S49) (hb : blkOk regs nb arrs shared b = true) (hk : nb ≤ k + 1) :
    st.code.length + 1 ≤ (genBlk sp pl m st k b).code.length := by
  have hx := (genCode_ext sp pl m b.f0 st.start).len
  simp only [GSt.start] at hx
  simp only [blkOk, Bool.and_eq_true] at hb
  have he := hb.1
  unfold genBlk
  simp only
  change st.code.length ≤ (genCode sp pl m st.start b.f0).code.length at hx
  generalize genCode sp pl m st.start b.f0 = st2 at *
  unfold endOk tgtOk at he
  split
  · simp [GSt.emit]; omega
  · split
    · split
      · simp [GSt.emit, GSt.leap]; omega
      · simp [GSt.emit, GSt.leap]; omega
    · rename_i g3 g2
      have g1 : b.f1 = 1 := by
        by_cases g1 : b.f1 = 1
        · exact g1
        · rw [if_neg g1, if_neg g2] at he
          simp at he
          exact absurd he.1.1.1 g3
      rw [if_pos g1] at he
      simp at he
      rw [if_neg (by omega)]
      simp [GSt.leap]; omega
/-- every block starts within the code -/
theorem starts_in {regs : Int} {arrs : List S44} {blks : List S49} {shared : List S44} (h : irOk regs arrs blks shared = true) (addr : List Int) (size : Int) (places : List (Int × Int)) (slots : Int) :
    1 ≤ (genTask arrs addr size blks places slots).code.length ∧ ∀ b : Int, 0 ≤ b → b < blks.length → 0 ≤ rd (genTask arrs addr size blks places slots).starts b ∧ rd (genTask arrs addr size blks places slots).starts b < (genTask arrs addr size blks places slots).code.length := by
  have hF := irOk_facts h
  obtain ⟨n, hn⟩ : ∃ n, blks.length = n + 1 := ⟨blks.length - 1, by omega⟩
  have h0 : PInv blks.length (⟨genStores size slots.toNat, [], [], []⟩ : GSt) := ⟨fun p hp => by simp at hp, fun x hx => by simp at hx⟩
  have h1 := genTo_inv h size places (mapTo arrs addr arrs.length) _ h0 n (by omega)
  have hb := hF.2.2.2.2.2.2 n (by omega)
  have hg := genBlk_more size places (mapTo arrs addr arrs.length) (genTo size places (mapTo arrs addr arrs.length) blks ⟨genStores size slots.toNat, [], [], []⟩ n) n _ hb (by omega)
  have hs := (genBlk_sz size places (mapTo arrs addr arrs.length) (genTo size places (mapTo arrs addr arrs.length) blks ⟨genStores size slots.toNat, [], [], []⟩ n) n (rd_T49 blks n)).2.2.1
  have hsl := (genTo_sz size places (mapTo arrs addr arrs.length) blks ⟨genStores size slots.toNat, [], [], []⟩ n).2.2.1
  have e : genTask arrs addr size blks places slots = genBlk size places (mapTo arrs addr arrs.length) (genTo size places (mapTo arrs addr arrs.length) blks ⟨genStores size slots.toNat, [], [], []⟩ n) n (rd_T49 blks n) := by
    unfold genTask
    rw [hn]
    rfl
  rw [e, hs]
  generalize genTo size places (mapTo arrs addr arrs.length) blks ⟨genStores size slots.toNat, [], [], []⟩ n = st at *
  refine ⟨by omega, fun b b0 b1 => ?_⟩
  have hm : rd (st.starts ++ [(st.code.length : Int)]) b ∈ st.starts ++ [(st.code.length : Int)] := mem_rd b0 (by simp at hsl ⊢; omega)
  rcases List.mem_append.1 hm with hm | hm
  · have := h1.2 _ hm
    omega
  · rw [List.mem_singleton.1 hm]
    omega
theorem layA_in {arrs shared : List S44} (h : ∀ k : Nat, k < arrs.length → arrOkAt arrs shared k = true) (h4 : arrs.length ≤ 4) (k : Nat) (hk : k ≤ arrs.length) : 0 ≤ layA arrs k ∧ layA arrs k ≤ 32 * k := by
  induction k with
  | zero => exact ⟨Int.le_refl _, Int.le_refl _⟩
  | succ k ih =>
    have hb := h k (by omega)
    have := ih (by omega)
    simp only [arrOkAt, Bool.and_eq_true, decide_eq_true_eq] at hb
    obtain ⟨⟨⟨b1, b2⟩, _⟩, _⟩ := hb
    unfold layA mx
    rw [if_neg (by omega), w64 (by omega)]
    omega
theorem mapTo_in (arrs : List S44) (addr : List Int) (hb : ∀ k : Nat, k < arrs.length → 0 ≤ rd addr k ∧ rd addr k ≤ 1000) (k : Nat) (hk : k ≤ arrs.length) : ∀ s, 0 ≤ mapTo arrs addr k s ∧ mapTo arrs addr k s ≤ 1000 := by
  induction k with
  | zero => intro s; exact ⟨Int.le_refl _, by simp [mapTo]⟩
  | succ k ih =>
    intro s
    simp only [mapTo]
    split
    · exact hb k (by omega)
    · exact ih (by omega) s
theorem rd_layAll (arrs : List S44) (n k : Nat) (h : k < n) : rd (layAll arrs n) k = layA arrs k := by
  simp [rd, layAll, h]
theorem size_in {regs : Int} {arrs : List S44} {blks : List S49} {shared : List S44} (h : irOk regs arrs blks shared = true) : 0 ≤ layA arrs arrs.length ∧ layA arrs arrs.length ≤ 128 := by
  have hF := irOk_facts h
  have := layA_in hF.2.2.2.2.1 hF.2.2.2.1 arrs.length (Nat.le_refl _)
  have := hF.2.2.2.1
  omega
theorem gOk_task {regs : Int} {arrs : List S44} {blks : List S49} {shared : List S44} (h : irOk regs arrs blks shared = true) {places : List (Int × Int)} {slots : Int} (hA : AllocOk regs places slots)
    (hd : layA arrs arrs.length + slots ≤ 512) : GOk blks.length (genTask arrs (layAll arrs arrs.length) (layA arrs arrs.length) blks places slots) := by
  have hF := irOk_facts h
  have hs := size_in h
  have h0 : GOk blks.length (⟨[], [], [], []⟩ : GSt) := ⟨rfl, fun x hx => by simp at hx, fun k hk => by simp at hk, fun p hp => by simp at hp⟩
  have hsl := hA.2.1
  have h1 := h0.step (gs_emit (l := genStores (layA arrs arrs.length) slots.toNat) (genStores_ok hs.1 _ (by omega)))
  refine genTo_ok h (plOk_of hA) hs.1 (by omega) (mapTo_in arrs _ (fun k hk => ?_) _ (Nat.le_refl _)) (st := ⟨genStores (layA arrs arrs.length) slots.toNat, [], [], []⟩) ?_ blks.length (Nat.le_refl _)
  · rw [rd_layAll _ _ _ hk]
    have := layA_in hF.2.2.2.2.1 hF.2.2.2.1 k (by omega)
    have := hF.2.2.2.1
    omega
  · simpa [GSt.emit] using h1
/-- the object of a valid function is valid -/
theorem objB_task {regs : Int} {arrs : List S44} {blks : List S49} {shared : List S44} (h : irOk regs arrs blks shared = true) {places : List (Int × Int)} {slots : Int} (hA : AllocOk regs places slots)
    (hd : layA arrs arrs.length + slots ≤ 512) (hc : (genTask arrs (layAll arrs arrs.length) (layA arrs arrs.length) blks places slots).code.length ≤ 4096) :
    objB (patchAll (genTask arrs (layAll arrs arrs.length) (layA arrs arrs.length) blks places slots)) (layA arrs arrs.length + slots) (genTask arrs (layAll arrs arrs.length) (layA arrs arrs.length) blks places slots).refs = true := by
  have hs := size_in h
  have hsl := hA.2.1
  obtain ⟨a, b⟩ := starts_in h (layAll arrs arrs.length) (layA arrs arrs.length) places slots
  exact objB_patch (gOk_task h hA hd) b a hc (by omega) hd
theorem sumTo_eq (blks : List S49) : sumTo blks blks.length = (blks.map (fun b => b.f0.length)).sum := by
  have h : ∀ k : Nat, k ≤ blks.length → sumTo blks k = ((blks.take k).map (fun b => b.f0.length)).sum := by
    intro k
    induction k with
    | zero => intro _; rfl
    | succ k ih =>
      intro hk
      rw [sumTo, ih (by omega), List.take_add_one, List.getElem?_eq_getElem (by omega), rd_Blk_get _ _ (by omega)]
      simp only [Option.toList_some, List.map_append, List.map_cons, List.map_nil, List.sum_append, List.sum_cons, List.sum_nil, Nat.add_zero]
  rw [h _ (Nat.le_refl _), List.take_length]
theorem code_small (arrs : List S44) (addr : List Int) (size : Int) (blks : List S49) (places : List (Int × Int)) (slots : Int) :
    (genTask arrs addr size blks places slots).code.length ≤ slots.toNat + 8 * (blks.map (fun b => b.f0.length)).sum + 3 * blks.length := by
  have := (genTo_sz size places (mapTo arrs addr arrs.length) blks ⟨genStores size slots.toNat, [], [], []⟩ blks.length).1
  rw [sumTo_eq] at this
  have hl : (genStores size slots.toNat).length = slots.toNat := by simp [genStores]
  unfold genTask
  simp only [hl] at this
  exact this
end Go.Proofs.Ytadaopfcgpfiiaa
namespace Go.Proofs.Ytadaopfcgpfiiaa
open Go.RowKit Go.Proofs.YtadaopfcgpfiiaaW.PrintWords Go.Proofs.YtadaopfcgpfiiaaW.PrintLast Go.Proofs.YtadaopfcgpfiiaaW.PrintMore PCg
set_option linter.unusedVariables false
set_option linter.unusedSimpArgs false
theorem instrB_op {x : S53} (h : instrB x = true) : 0 ≤ x.f0 ∧ x.f0 < 256 := by
  unfold instrB at h
  cases hf : fmtOf x.f0 with
  | none => rw [hf] at h; cases h
  | some p =>
    unfold fmtOf at hf
    repeat' split at hf
    all_goals first | (cases hf; done) | omega
theorem patch_ops {nb : Int} {st : GSt} (h : GOk nb st) : ∀ x ∈ patchAll st, 0 ≤ x.f0 ∧ x.f0 < 256 := by
  intro x hx
  have h1 : x.f0 ∈ (patchAll st).map (fun x => x.f0) := List.mem_map.2 ⟨x, hx, rfl⟩
  rw [patch_f0 h] at h1
  obtain ⟨y, hy, e⟩ := List.mem_map.1 h1
  rw [← e]
  exact instrB_op (h.ins y hy)
theorem rk_len : ∀ (l : List S53) (p : Int), (rk p l).length ≤ l.length := by
  intro l
  induction l with
  | nil => intro p; exact Nat.le_refl _
  | cons x l ih =>
    intro p
    have := ih (p + 1)
    simp only [rk, List.length_cons]
    split <;> (try simp only [List.length_cons]) <;> omega
/-- what Task answers for a valid function within the bounds of the statements -/
def TaskGood (nm : ByteArray) (regs : Int) (arrs : List S44) (blks : List S49) (w : World) (e : Ending) (w' : World) : Prop :=
  ∃ (st : GSt) (places : List (Int × Int)) (slots : Int) (vc vr : Value), st = genTask arrs (layAll arrs arrs.length) (layA arrs arrs.length) blks places slots ∧ AllocOk regs places slots ∧ e = .returned (.tuple #[.agg #[.string nm, vc, .int .i64 (layA arrs arrs.length + slots), vr], .int .i64 0]) ∧
    Kd.R k53 53 w' w.heap.size (fun _ => True) vc (patchAll st) ∧ Kd.R k105 105 w' w.heap.size (fun _ => True) vr st.refs ∧ Below w.heap.size w w' ∧
    GOk blks.length st ∧ st.code.length ≤ 4096 ∧ st.refs.length ≤ 4096 ∧ objB (patchAll st) (layA arrs arrs.length + slots) st.refs = true
theorem task_good (nm : ByteArray) (regs : Int) (A : Option Addr) (c : Nat) (arrs : List S44) (A3 : Option Addr) (c3 : Nat) (blks : List S49) (w : World)
    (hr : Kd.C k44 w A arrs.length arrs) (hcp : arrs.length ≤ c) (hr3 : Kd.C k49 w A3 blks.length blks) (hcp3 : blks.length ≤ c3)
    (hrg : regs ≤ 60) (hm3 : blks.length ≤ 20) (hsum : (blks.map (fun b => b.f0.length)).sum ≤ 300) (hns : ∀ a ∈ arrs, a.f0.size ≤ maxLen) (hnb : ∀ b ∈ blks, ∀ i ∈ b.f0, i.f5.size ≤ maxLen)
    (hok : irOk regs arrs blks (mentL blks) = true) :
    Calls Try.prog 12 #[.agg #[.string nm, .int .i64 regs, .slice A arrs.length c, .slice A3 blks.length c3]] w (TaskGood nm regs arrs blks w) := by
  have hF := irOk_facts hok
  have hz := size_in hok
  refine (task_small nm regs A c arrs A3 c3 blks w hr hcp hr3 hcp3 (by omega) (by omega) (by omega) hns hnb).mono ?_
  rintro e w' (⟨h, _⟩ | ⟨_, places, slots, hA, hs, hT⟩)
  · rw [hok] at h; cases h
  · have hcs := code_small arrs (layAll arrs arrs.length) (layA arrs arrs.length) blks places slots
    have hs0 := hA.2.1
    rcases hT with ⟨h, _⟩ | ⟨h1, h2, vc, vr, he, hC, hR, hb⟩
    · exfalso; omega
    · have hG := gOk_task hok hA h1
      have hl : (genTask arrs (layAll arrs arrs.length) (layA arrs arrs.length) blks places slots).refs.length ≤ 4096 := by
        have := congrArg List.length hG.refs
        rw [List.length_map] at this
        have := rk_len (genTask arrs (layAll arrs arrs.length) (layA arrs arrs.length) blks places slots).code 0
        omega
      exact ⟨_, places, slots, vc, vr, rfl, hA, he, hC, hR, hb, hG, h2, hl, objB_task hok hA h1 h2⟩
theorem one_box {α : Type} {K : Kd α} {W : World} {b t : Nat} {cs : Array Value} {x : α} (h : W.heap[b]? = some (.cells cs t (0, 0))) (hK : K.K W x cs.toList) : Kd.C K W (some ⟨b, 0, none⟩) 1 [x] := by
  refine ⟨rfl, by omega, fun _ => ⟨⟨b, 0, none⟩, rfl, fun j p hj => ?_⟩⟩
  match j, hj with
  | 0, hj =>
    have hp : x = p := by simpa using hj
    subst hp
    refine ⟨cs.toList, by simpa using K.K_len hK, hK, fun q u hu => ?_⟩
    have ha : (⟨b, 0, none⟩ : Addr).add (0 * K.sz + q) = ⟨b, q, none⟩ := by rw [Nat.zero_mul, Nat.zero_add]; exact add_plain b q
    rw [ha, blk_cell h q]
    simpa using hu
  | j + 1, hj => simp at hj
/-- the block of the chapter's example -/
def awkBlk : S49 := ⟨[⟨10, 0, 0, 0, 2, ⟨#[]⟩⟩], 3, 0, 0, 0⟩
theorem awk_ok : irOk 1 [] [awkBlk] (mentL [awkBlk]) = true := by kernel_rfl
set_option maxRecDepth 100000 in
set_option maxHeartbeats 2000000 in
theorem awk_task (w2 : World) : Calls Try.prog 12 #[.agg #[.string ⟨#[102]⟩, .int .i64 1, .slice none 0 0, .slice (some ⟨w2.heap.size + 1, 0, none⟩) 1 1]]
    ((w2.alloc (.cells #[.int .u8 10, .int .i64 0, .int .i64 0, .int .i64 0, .int .i64 2, .string ⟨#[]⟩] 51)).alloc (.cells #[.slice (some ⟨w2.heap.size, 0, none⟩) 1 1, .int .u8 3, .int .i64 0, .int .i64 0, .int .i64 0] 49))
    (TaskGood ⟨#[102]⟩ 1 [] [awkBlk] ((w2.alloc (.cells #[.int .u8 10, .int .i64 0, .int .i64 0, .int .i64 0, .int .i64 2, .string ⟨#[]⟩] 51)).alloc (.cells #[.slice (some ⟨w2.heap.size, 0, none⟩) 1 1, .int .u8 3, .int .i64 0, .int .i64 0, .int .i64 0] 49))) := by
  have h1 := blk_alloc (blk_new w2 (.cells #[.int .u8 10, .int .i64 0, .int .i64 0, .int .i64 0, .int .i64 2, .string ⟨#[]⟩] 51)) (.cells #[.slice (some ⟨w2.heap.size, 0, none⟩) 1 1, .int .u8 3, .int .i64 0, .int .i64 0, .int .i64 0] 49)
  have h2 := heap_alloc_at (w2.alloc (.cells #[.int .u8 10, .int .i64 0, .int .i64 0, .int .i64 0, .int .i64 2, .string ⟨#[]⟩] 51)) (.cells #[.slice (some ⟨w2.heap.size, 0, none⟩) 1 1, .int .u8 3, .int .i64 0, .int .i64 0, .int .i64 0] 49) (w2.heap.size + 1) (by simp)
  generalize ((w2.alloc (.cells #[.int .u8 10, .int .i64 0, .int .i64 0, .int .i64 0, .int .i64 2, .string ⟨#[]⟩] 51)).alloc (.cells #[.slice (some ⟨w2.heap.size, 0, none⟩) 1 1, .int .u8 3, .int .i64 0, .int .i64 0, .int .i64 0] 49)) = W at *
  have c1 : Kd.C k51 W (some ⟨w2.heap.size, 0, none⟩) 1 [⟨10, 0, 0, 0, 2, ⟨#[]⟩⟩] := one_box h1 (k51_mk W ⟨10, 0, 0, 0, 2, ⟨#[]⟩⟩)
  have c2 : Kd.C k49 W (some ⟨w2.heap.size + 1, 0, none⟩) 1 [awkBlk] := one_box h2 (k49_mk W awkBlk (Nat.le_refl 1) c1)
  refine task_good ⟨#[102]⟩ 1 none 0 [] (some ⟨w2.heap.size + 1, 0, none⟩) 1 [awkBlk] W ⟨rfl, by simp, by simp⟩ (Nat.le_refl _) c2 (Nat.le_refl _) (by omega) (by decide) (by decide) (by simp) ?_ awk_ok
  intro b hb i hi
  rw [List.mem_singleton.1 hb] at hi
  rw [List.mem_singleton.1 hi]
  exact Nat.zero_le _
set_option maxRecDepth 100000 in
set_option maxHeartbeats 2000000 in
theorem awake_any (w : World) : Calls Try.prog 10 #[] w fun e w' => e = .returned (.bool true) ∧ Below w.heap.size w w' := by
  go_enter Try.func10, Try.ntmps10
  have HCON := Aside0.mk (codegen_Constant.calls 10 3 131072 _ w const_awake)
  go_wp2_with fail
  refine HCON.out.mono ?_
  rintro e w2 ⟨vl, rfl, hRl, hb2⟩
  obtain ⟨Al, cl, hv⟩ := Kd.R_slice hRl
  subst hv
  have HRL := Aside0.mk hRl
  have HB2 := Aside0.mk hb2
  clear hRl hb2
  go_wp2_with fail
  refine (awk_task w2).mono ?_
  rintro e w3 ⟨st, places, slots, vc, vr, _, _, rfl, hC, hR, hb3, hG, hl, hl2, hV⟩
  obtain ⟨Ac, cc, rfl⟩ := Kd.R_slice hC
  obtain ⟨Ar, cr, rfl⟩ := Kd.R_slice hR
  obtain ⟨d, hd⟩ : ∃ d, layA [] ([] : List S44).length + slots = d := ⟨_, rfl⟩
  rw [hd] at hV
  rw [hd]
  obtain ⟨_, hcc, hCC⟩ := Kd.R_reads' hC
  obtain ⟨_, hcr, hCR⟩ := Kd.R_reads' hR
  have HB3 := Aside0.mk (below_step (below_alloc (below_alloc HB2.out _) _) hb3)
  have hl0 := patch_len hG
  have hok := fun W (hB : Below w3.heap.size w3 W) => cgValid_any ⟨#[102]⟩ Ac cc (patchAll st) d Ar cr st.refs W (Kd.C_below hCC hB) hcc (Kd.C_below hCR hB) hcr (by omega) (by omega) (patch_ops hG)
  rw [hV] at hok
  have HOK := Aside0.mk hok; clear hok
  generalize (patchAll st).length = n1 at *
  generalize st.refs.length = n2 at *
  obtain ⟨g, cells, hAl, hg⟩ := code_addr HRL.out (by decide)
  subst hAl
  obtain ⟨_, _, hCL⟩ := Kd.R_reads' HRL.out
  obtain ⟨ad, hA, a0, a1, a2, a3, a4⟩ := at_T53 hCL 0 (by decide) (by decide)
  obtain ⟨ad', hA', b0, b1, b2, b3, b4⟩ := at_T53 hCL 2 (by decide) (by decide)
  cases hA; cases hA'
  have hgl := blk_lt hg
  have hb23 : Below w2.heap.size w2 w3 := below_step (below_alloc (below_alloc (Below.refl _ _) _) _) hb3
  have hz3 := hb23.size
  have mv : ∀ i v, w2.cell? ⟨g, i, none⟩ = some v → w3.cell? ⟨g, i, none⟩ = some v := fun i v h => (hb23.cell hgl).trans h
  replace a0 : w3.cell? ⟨g, 0, none⟩ = some (.int .u8 14) := mv _ _ a0
  replace a1 : w3.cell? ⟨g, 1, none⟩ = some (.int .i64 3) := mv _ _ a1
  replace a2 : w3.cell? ⟨g, 2, none⟩ = some (.int .i64 0) := mv _ _ a2
  replace a3 : w3.cell? ⟨g, 3, none⟩ = some (.int .i64 0) := mv _ _ a3
  replace a4 : w3.cell? ⟨g, 4, none⟩ = some (.int .i64 8) := mv _ _ a4
  replace b0 : w3.cell? ⟨g, 10, none⟩ = some (.int .u8 17) := mv _ _ b0
  replace b1 : w3.cell? ⟨g, 11, none⟩ = some (.int .i64 3) := mv _ _ b1
  replace b2 : w3.cell? ⟨g, 12, none⟩ = some (.int .i64 3) := mv _ _ b2
  replace b3 : w3.cell? ⟨g, 13, none⟩ = some (.int .i64 0) := mv _ _ b3
  replace b4 : w3.cell? ⟨g, 14, none⟩ = some (.int .i64 0) := mv _ _ b4
  have hg3 : g < w3.heap.size := by omega
  clear hb3 hC hR hCC hCR hCL hg mv hG hV hb23 hl0 hl hl2 hcc hcr hz3 hgl hd
  go_wp2_with fail
  refine (HOK.out _ (below_alloc (Below.refl _ _) _)).mono ?_
  rintro e w4 ⟨rfl, hb4⟩
  have HB4 := Aside0.mk (below_step (below_alloc HB3.out _) hb4)
  go_wp2
  go_ret
  exact ⟨rfl, HB4.out⟩
end Go.Proofs.Ytadaopfcgpfiiaa
namespace Go.Proofs.Ytadaopfcgpfiiaa
open Go.RowKit Go.Proofs.YtadaopfcgpfiiaaW.PrintWords Go.Proofs.YtadaopfcgpfiiaaW.PrintLast Go.Proofs.YtadaopfcgpfiiaaW.PrintMore PCg
set_option linter.unusedVariables false
theorem refLayout_go (arrs : List S44) (hl : arrs.length ≤ 1000000) : ∀ n j fuel : Nat, j + n = arrs.length → n < fuel →
    ontimeref21_Layout.l0 fuel arrs (layAll arrs j) (layA arrs j) (j : Int) = some (layAll arrs arrs.length, layA arrs arrs.length) := by
  intro n
  induction n with
  | zero =>
    intro j fuel hj hf
    obtain ⟨f, rfl⟩ : ∃ f, fuel = f + 1 := ⟨fuel - 1, by omega⟩
    have e : j = arrs.length := by omega
    subst e
    unfold ontimeref21_Layout.l0
    rw [if_neg (by omega)]
  | succ n ih =>
    intro j fuel hj hf
    obtain ⟨f, rfl⟩ : ∃ f, fuel = f + 1 := ⟨fuel - 1, by omega⟩
    unfold ontimeref21_Layout.l0
    rw [if_pos (by omega), if_pos (by rw [layAll_len]; omega), if_pos (by omega), w64 (n := (j : Int) + 1) (by omega)]
    have h := ih (j + 1) f (by omega) (by omega)
    rw [show layAll arrs (j + 1) = layAll arrs j ++ [layA arrs j] from by simp [layAll, List.range_succ]] at h
    rw [show layA arrs (j + 1) = wrap64 (layA arrs j + mx (rd_T44 arrs (j : Int)).f1 0) from rfl] at h
    rw [show ((j + 1 : Nat) : Int) = (j : Int) + 1 from by omega] at h
    exact h
theorem refLayout_f (arrs : List S44) (hl : arrs.length ≤ 1000000) (K : Nat) (hK : arrs.length < K) : ontimeref21_Layout.f K arrs = some (layAll arrs arrs.length, layA arrs arrs.length) :=
  refLayout_go arrs hl arrs.length 0 K (by omega) hK
end Go.Proofs.Ytadaopfcgpfiiaa
namespace Go.Proofs.Ytadaopfcgpfiiaa
open Go.RowKit Go.Proofs.YtadaopfcgpfiiaaW.PrintWords Go.Proofs.YtadaopfcgpfiiaaW.PrintLast Go.Proofs.YtadaopfcgpfiiaaW.PrintMore PCg
set_option linter.unusedVariables false
set_option linter.unusedSimpArgs false
set_option maxRecDepth 100000 in
set_option maxHeartbeats 2000000 in
theorem lawLayout_any (A : Option Addr) (c : Nat) (arrs : List S44) (w : World) (hr : Kd.C k44 w A arrs.length arrs) (hcp : arrs.length ≤ c) :
    Calls Try.prog 5 #[.slice A arrs.length c] w fun e w' => e = .returned (.bool true) ∧ Below w.heap.size w w' := by
  have HR := Aside0.mk hr; clear hr
  have hu := Try.underlying44
  go_enter Try.func5, Try.ntmps5
  go_wp2_with fail
  refine (awake_any w).mono ?_
  rintro e w1 ⟨rfl, hb1⟩
  have HB1 := Aside0.mk hb1; clear hb1
  by_cases h40 : (40 : Int) < arrs.length
  · have h40b := decide_eq_true h40
    go_wp2
    go_ret
    exact ⟨rfl, HB1.out⟩
  have h40b := decide_eq_false h40
  go_wp2_with fail
  go_loopw [3] (fun i wr => ∃ k : Int, i = .int .i64 k ∧ 0 ≤ k ∧ k ≤ arrs.length ∧ Aside0 (Below w.heap.size w wr)) (fun i wr => arrs.length - (intOf i).toNat)
  case atStart => exact ⟨0, rfl, Int.le_refl _, by omega, HB1⟩
  case round =>
    obtain ⟨k, rfl, hk0, hk, HB⟩ := hrel
    by_cases hlt : k < arrs.length
    · obtain ⟨ad, hA, h0, h1⟩ := at_T44 HR.out k hk0 hlt
      cases hA
      replace h0 := (HB.out.cell (World.block_lt_of_cell? w _ h0)).trans h0
      replace h1 := (HB.out.cell (World.block_lt_of_cell? w _ h1)).trans h1
      have p110 := eq_true hk0
      have q110 := eq_true hlt
      by_cases hbig : (1073741824 : Int) < (rd_T44 arrs k).f1
      · have hbb := decide_eq_true hbig
        go_wp2
        go_ret
        exact ⟨rfl, HB.out⟩
      · have hbb := decide_eq_false hbig
        go_wp2
        go_roundw
        case rel => exact ⟨k + 1, rfl, by omega, by omega, HB⟩
        case measure => simp [intOf]; omega
    · have q110 := eq_false hlt
      have HM := Aside0.mk (show arrs.length ≤ 40 by omega)
      have HLC := fun (W : World) (hB : Below w.heap.size w W) => codegen_Layout.calls 100 A c arrs _ _ W (Kd.C_below HR.out hB) hcp (layout_f arrs (by omega) 100 (by omega))
      have HLR := fun (W : World) (hB : Below w.heap.size w W) => ontimeref21_Layout.calls 100 A c arrs _ _ W (Kd.C_below HR.out hB) hcp (refLayout_f arrs (by omega) 100 (by omega))
      have HL1 := Aside0.mk HLC; have HL2 := Aside0.mk HLR
      clear HLC HLR
      obtain ⟨S, hS⟩ : ∃ S, layA arrs arrs.length = S := ⟨_, rfl⟩
      have hl := layAll_len arrs arrs.length
      generalize layAll arrs arrs.length = L at *
      rw [hS] at HL1 HL2
      go_wp2_with fail
      refine (HL1.out _ HB.out).mono ?_
      rintro e w2 ⟨v2, rfl, hR2, hb2⟩
      obtain ⟨A2, c2, rfl⟩ := Kd.R_slice hR2
      have HR2 := Aside0.mk hR2
      have HB2 := Aside0.mk (below_step HB.out hb2)
      clear hR2 hb2
      go_wp2_with fail
      refine (HL2.out _ HB2.out).mono ?_
      rintro e w3 ⟨v3, rfl, hR3, hb3⟩
      obtain ⟨A3, c3, rfl⟩ := Kd.R_slice hR3
      have HR3 := Aside0.mk hR3
      have HR2' := Aside0.mk (Kd.R_below HR2.out hb3)
      have HB3 := Aside0.mk (below_step HB2.out hb3)
      clear hR3 hb3 HR2
      go_wp2_with fail
      obtain ⟨_, _, hC2⟩ := Kd.R_reads' HR2'.out
      obtain ⟨_, _, hC3⟩ := Kd.R_reads' HR3.out
      have HC2 := Aside0.mk hC2; have HC3 := Aside0.mk hC3
      clear hC2 hC3 HR2' HR3
      have hlL := HM.out
      rw [hl] at HC2 HC3
      go_loopw [8] (fun i wr => ∃ k : Int, i = .int .i64 k ∧ 0 ≤ k ∧ k ≤ arrs.length ∧ Aside0 (Below w3.heap.size w3 wr)) (fun i wr => arrs.length - (intOf i).toNat)
      case atStart => exact ⟨0, rfl, Int.le_refl _, by omega, ⟨Below.refl _ _⟩⟩
      case round =>
        obtain ⟨k, rfl, hk0, hk, HB4⟩ := hrel
        by_cases hlt : k < arrs.length
        · obtain ⟨ad2, hA2, x0⟩ := Kd.at_int HC2.out k hk0 hlt
          obtain ⟨ad3, hA3, y0⟩ := Kd.at_int HC3.out k hk0 hlt
          cases hA2; cases hA3
          replace x0 := (HB4.out.cell (World.block_lt_of_cell? w3 _ x0)).trans x0
          replace y0 := (HB4.out.cell (World.block_lt_of_cell? w3 _ y0)).trans y0
          have p110 := eq_true hk0
          have q110 := eq_true hlt
          go_wp2_with fail
          go_quiet (fail)
          go_wp2
          go_roundw
          case rel => exact ⟨k + 1, rfl, by omega, by omega, ⟨pw_below_drewN HB4.out _⟩⟩
          case measure => simp [intOf]; omega
        · have q110 := eq_false hlt
          go_wp2
          go_ret
          exact ⟨rfl, below_step HB3.out HB4.out⟩
end Go.Proofs.Ytadaopfcgpfiiaa
