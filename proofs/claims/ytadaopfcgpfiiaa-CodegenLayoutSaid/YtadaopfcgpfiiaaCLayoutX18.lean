/- Lemmas, part 18: what the theorem of the last text needs, joined by a program out of the seat's texts A0, C0, C1, C2, C3, C4, C5, C6, C7, A2, A3, A4, A5, B2, B3, B4, C8, C9, D0. -/
import Derived.Test.YtadaopfcgpfiiaaCLayoutX11
import Derived.WalkSpells
import Derived.WalkLawsBesides
import Derived.Test.YtadaopfcgpfiiaaCLayoutX12
import Derived.Deep.RegionLaw
import Derived.BigRegion
import Derived.Laws.EntriesVeiled
import Derived.Maps.Own
import Derived.Maps.OwnOps
import Derived.Maps.Views
import Derived.Test.YtadaopfcgpfiiaaCLayoutX13
import Derived.Test.YtadaopfcgpfiiaaCLayoutX14
import Derived.Test.YtadaopfcgpfiiaaCLayoutX15
import Derived.Test.YtadaopfcgpfiiaaCLayoutX17
import Derived.Deep.RegionHeld3
import Derived.Laws.ResultCell
import Derived.Laws.Rows
import Derived.IntWalk
namespace Go.Proofs.Ytadaopfcgpfiiaa
open Go.RowKit Go.Proofs.YtadaopfcgpfiiaaW.PrintWords Go.Proofs.YtadaopfcgpfiiaaW.PrintLast Go.Proofs.YtadaopfcgpfiiaaW.PrintMore PCg
set_option linter.unusedVariables false
set_option linter.unusedSimpArgs false
theorem retb {a b : Bool} (h : a = b) : Ending.returned (.bool a) = .returned (.bool b) := by rw [h]
theorem reti {k : IntKind} {a b : Int} (h : a = b) : Ending.returned (.int k a) = .returned (.int k b) := by rw [h]
/-- slices.IndexFunc's answer -/
def ixf {α : Type} (p : α → Bool) (xs : List α) : Int := match xs.findIdx? p with | some i => (i : Int) | none => -1
theorem ixf_none {α : Type} {p : α → Bool} {xs : List α} (h : ∀ j, ∀ hj : j < xs.length, p xs[j] = false) : ixf p xs = -1 := by
  unfold ixf
  rw [List.findIdx?_eq_none_iff.2]
  intro x hx
  obtain ⟨j, hj, rfl⟩ := List.getElem_of_mem hx
  exact h j hj
theorem ixf_some {α : Type} {p : α → Bool} {xs : List α} {k : Nat} (hk : k < xs.length) (h : ∀ j, ∀ hj : j < xs.length, j < k → p xs[j] = false) (hp : p xs[k] = true) : ixf p xs = k := by
  unfold ixf
  rw [List.findIdx?_eq_some_iff_getElem.2 ⟨hk, hp, fun j hj => by simp [h j (by omega) hj]⟩]
theorem ixf_ge {α : Type} (p : α → Bool) (xs : List α) : decide (0 ≤ ixf p xs) = xs.any p := by
  unfold ixf
  cases h : xs.findIdx? p with
  | none =>
    have := List.findIdx?_eq_none_iff.1 h
    symm
    simp only [Int.reduceNeg, Int.reduceLE, decide_false, List.any_eq_false]
    intro x hx; simp [this x hx]
  | some i =>
    obtain ⟨hi, hp, _⟩ := List.findIdx?_eq_some_iff_getElem.1 h
    simp only [Int.natCast_nonneg, decide_true]
    symm
    exact List.any_eq_true.2 ⟨xs[i], List.getElem_mem hi, hp⟩
theorem ixf_range {α : Type} (p : α → Bool) (xs : List α) : -1 ≤ ixf p xs ∧ ixf p xs ≤ xs.length := by
  unfold ixf
  cases h : xs.findIdx? p with
  | none => simp only; omega
  | some i => obtain ⟨hi, _⟩ := List.findIdx?_eq_some_iff_getElem.1 h; simp only; omega
theorem heap_alloc_at (w : World) (o : Obj) (b : Nat) (h : b = w.heap.size) : (w.alloc o).heap[b]? = some o := by subst h; exact heap_alloc_new w o
/-- a cell that lay below a region's start lies behind a call in the region, too -/
theorem keepCell {w6 W W2 : World} {b o : Nat} {v : Value} (hy : b < w6.heap.size) (hS : Aside0 (Below w6.heap.size w6 W)) (hb : Below W.heap.size W W2) (h : W.cell? ⟨b, o, none⟩ = some v) : W2.cell? ⟨b, o, none⟩ = some v :=
  (hb.cell (p := ⟨b, o, none⟩) (Nat.lt_of_lt_of_le hy hS.out.size)).trans h
theorem keepBelow {w6 W W2 : World} (hS : Aside0 (Below w6.heap.size w6 W)) (hb : Below W.heap.size W W2) : Aside0 (Below w6.heap.size w6 W2) := ⟨below_step hS.out hb⟩
theorem blk1 {w : World} {b t : Nat} {v0 : Value} (h : w.heap[b]? = some (.cells #[v0] t (0, 0))) : w.cell? ⟨b, 0, none⟩ = some v0 := (blk_cell h 0).trans rfl
theorem blk2 {w : World} {b t : Nat} {v0 v1 : Value} (h : w.heap[b]? = some (.cells #[v0, v1] t (0, 0))) : w.cell? ⟨b, 0, none⟩ = some v0 ∧ w.cell? ⟨b, 1, none⟩ = some v1 := ⟨(blk_cell h 0).trans rfl, (blk_cell h 1).trans rfl⟩
theorem blk4 {w : World} {b t : Nat} {v0 v1 v2 v3 : Value} (h : w.heap[b]? = some (.cells #[v0, v1, v2, v3] t (0, 0))) : w.cell? ⟨b, 0, none⟩ = some v0 ∧ w.cell? ⟨b, 1, none⟩ = some v1 ∧ w.cell? ⟨b, 2, none⟩ = some v2 ∧ w.cell? ⟨b, 3, none⟩ = some v3 := ⟨(blk_cell h 0).trans rfl, (blk_cell h 1).trans rfl, (blk_cell h 2).trans rfl, (blk_cell h 3).trans rfl⟩
theorem blk5 {w : World} {b t : Nat} {v0 v1 v2 v3 v4 : Value} (h : w.heap[b]? = some (.cells #[v0, v1, v2, v3, v4] t (0, 0))) : w.cell? ⟨b, 0, none⟩ = some v0 ∧ w.cell? ⟨b, 1, none⟩ = some v1 ∧ w.cell? ⟨b, 2, none⟩ = some v2 ∧ w.cell? ⟨b, 3, none⟩ = some v3 ∧ w.cell? ⟨b, 4, none⟩ = some v4 := ⟨(blk_cell h 0).trans rfl, (blk_cell h 1).trans rfl, (blk_cell h 2).trans rfl, (blk_cell h 3).trans rfl, (blk_cell h 4).trans rfl⟩
theorem blk6 {w : World} {b t : Nat} {v0 v1 v2 v3 v4 v5 : Value} (h : w.heap[b]? = some (.cells #[v0, v1, v2, v3, v4, v5] t (0, 0))) : w.cell? ⟨b, 0, none⟩ = some v0 ∧ w.cell? ⟨b, 1, none⟩ = some v1 ∧ w.cell? ⟨b, 2, none⟩ = some v2 ∧ w.cell? ⟨b, 3, none⟩ = some v3 ∧ w.cell? ⟨b, 4, none⟩ = some v4 ∧ w.cell? ⟨b, 5, none⟩ = some v5 := ⟨(blk_cell h 0).trans rfl, (blk_cell h 1).trans rfl, (blk_cell h 2).trans rfl, (blk_cell h 3).trans rfl, (blk_cell h 4).trans rfl, (blk_cell h 5).trans rfl⟩
end Go.Proofs.Ytadaopfcgpfiiaa
namespace Go.Proofs.Ytadaopfcgpfiiaa
open Go.RowKit Go.Proofs.YtadaopfcgpfiiaaW.PrintWords Go.Proofs.YtadaopfcgpfiiaaW.PrintLast Go.Proofs.YtadaopfcgpfiiaaW.PrintMore PCg
set_option linter.unusedVariables false
set_option linter.unusedSimpArgs false
def kTwo : Kd (Int × Int) := Kd.pair (Kd.int .i64) (Kd.int .i64)
theorem kTwo_open {w : World} {x : Int × Int} {cs : List Value} (h : kTwo.K w x cs) : cs = [.int .i64 x.1, .int .i64 x.2] := by
  obtain ⟨_, _, rfl, rfl, rfl⟩ := h
  exact rfl
theorem kTwo_mk (w : World) (x : Int × Int) : kTwo.K w x [.int .i64 x.1, .int .i64 x.2] := ⟨[.int .i64 x.1], [.int .i64 x.2], rfl, rfl, rfl⟩
theorem kTwo_mkM (w : World) (base : Nat) (ok : Nat → Prop) (x : Int × Int) : kTwo.M w base ok x [.int .i64 x.1, .int .i64 x.2] := ⟨[.int .i64 x.1], [.int .i64 x.2], rfl, rfl, rfl⟩
def rdTwo (xs : List (Int × Int)) (i : Int) : Int × Int := xs.getD i.toNat (0, 0)
theorem atTwo {w : World} {A : Option Addr} {n : Nat} {xs : List (Int × Int)} (h : Kd.C kTwo w A n xs) (i : Int) (h0 : 0 ≤ i) (h1 : i < n) :
    ∃ ad, A = some ad ∧ w.cell? (ad.add (i.toNat * 2)) = some (.int .i64 (rdTwo xs i).1) ∧ w.cell? ⟨(ad.add (i.toNat * 2)).block, (ad.add (i.toNat * 2)).off + 1, none⟩ = some (.int .i64 (rdTwo xs i).2) := by
  obtain ⟨ad, c, e, _, hK, hc0⟩ := Kd.C_get h (0, 0) i h0 h1
  have hc : ∀ j u, c[j]? = some u → w.cell? (ad.add (i.toNat * 2 + j)) = some u := hc0
  obtain rfl := kTwo_open hK
  exact ⟨ad, e, hc 0 _ rfl, by rw [← add_field _ _ 1 (by omega)]; exact hc 1 _ rfl⟩
theorem infoPatch : (Try.prog.info? 94).map (fun i => (i.zero, i.size, i.bytes)) = some (some (.agg #[(.int .i64 0), (.int .i64 0)]), 2, 16) := by kernel_rfl
theorem infoRef : (Try.prog.info? 105).map (fun i => (i.zero, i.size, i.bytes)) = some (some (.agg #[(.int .i64 0), (.string ⟨#[]⟩), (.bool false)]), 3, 32) := by kernel_rfl
/-- what of a generator stays: name, size of the data, the function's parts, the places, the map of addresses, the first spill slot -/
structure GEnv where
  name : ByteArray
  data : Int
  fname : ByteArray
  regs : Int
  av : Value
  bv : Value
  pv : Value
  slots : Int
  mb : Nat
  spill : Int
/-- what grows -/
structure GSt where
  code : List S53
  refs : List S105
  starts : List Int
  patches : List (Int × Int)
def gcells (E : GEnv) (vc vr vs vp : Value) : Array Value :=
  #[.string E.name, vc, .int .i64 E.data, vr, .string E.fname, .int .i64 E.regs, E.av, E.bv, E.pv, .int .i64 E.slots, .map (some E.mb), .int .i64 E.spill, vs, vp]
/-- the generator lies at block g; its rows' blocks are from B on and among O -/
def Gen (w : World) (B g : Nat) (O : Nat → Prop) (E : GEnv) (st : GSt) : Prop :=
  ∃ vc vr vs vp : Value, w.heap[g]? = some (.cells (gcells E vc vr vs vp) 90 (0, 0)) ∧ B ≤ g ∧ B ≤ w.heap.size ∧ (∀ k, O k → k < w.heap.size) ∧
    Kd.R k53 53 w B O vc st.code ∧ Kd.R k105 105 w B O vr st.refs ∧ Kd.R (Kd.int .i64) 3 w B O vs st.starts ∧ Kd.R kTwo 94 w B O vp st.patches
section
variable {w w' : World} {B g : Nat} {O O' : Nat → Prop} {E : GEnv} {st : GSt}
theorem Gen.lt (h : Gen w B g O E st) : g < w.heap.size := by
  obtain ⟨vc, vr, vs, vp, hb, _⟩ := h
  exact blk_lt hb
/-- whatever keeps the generator's blocks keeps it -/
theorem Gen.kept {S : Nat → Prop} (h : Gen w B g O E st) (hk : Kept w w' S) (hg : ¬ S g) (hO : ∀ k, O k → ¬ S k) : Gen w' B g O E st := by
  obtain ⟨vc, vr, vs, vp, hb, h1, h2, h3, r1, r2, r3, r4⟩ := h
  exact ⟨vc, vr, vs, vp, blk_kept hb hk hg, h1, Nat.le_trans h2 hk.1, fun k hO' => Nat.lt_of_lt_of_le (h3 k hO') hk.1, Kd.R_kept r1 hk hO, Kd.R_kept r2 hk hO, Kd.R_kept r3 hk hO, Kd.R_kept r4 hk hO⟩
theorem Gen.below (h : Gen w B g O E st) (hb : Below w.heap.size w w') : Gen w' B g O E st := h.kept (Kept.of_below hb (fun _ => False)) (fun h => h) (fun _ _ h => h)
end
/-- what a method of the generator keeps: all but the generator's blocks; and it leaves the rest of the world alone -/
def GKept (B g : Nat) (O : Nat → Prop) (w w' : World) : Prop := Kept w w' (fun k => k = g ∨ O k) ∧ Below B w w'
section
variable {w w1 w2 : World} {B g : Nat} {O : Nat → Prop}
theorem GKept.refl (B g : Nat) (O : Nat → Prop) (w : World) : GKept B g O w w := ⟨Kept.refl w _, Below.refl B w⟩
/-- two calls: the second's own blocks are the first's, or new -/
theorem GKept.trans {O' : Nat → Prop} (h : GKept B g O w w1) (k : GKept B g O' w1 w2) (hO : ∀ k, O' k → O k ∨ w.heap.size ≤ k) : GKept B g O w w2 :=
  ⟨h.1.then_ k.1 (fun i hi => by
    rcases hi with hi | hi
    · exact .inl (.inl hi)
    · rcases hO i hi with h' | h'
      · exact .inl (.inr h')
      · exact .inr h'), h.2.trans k.2⟩
theorem GKept.below (h : GKept B g O w w1) (hB : B ≤ w1.heap.size) (k : Below w1.heap.size w1 w2) : GKept B g O w w2 := ⟨h.1.below k, h.2.trans (k.mono hB)⟩
theorem GKept.pre (hB : B ≤ w.heap.size) (h : Below w.heap.size w w1) (k : GKept B g O w1 w2) : GKept B g O w w2 :=
  ⟨(Kept.of_below h (fun k => k = g ∨ O k)).then_ k.1 (fun i hi => .inl hi), (h.mono hB).trans k.2⟩
/-- a block of one's own that is none of the generator's -/
theorem GKept.blk {b : Nat} {o : Obj} (h : GKept B g O w w1) (hb : w.heap[b]? = some o) (hg : b ≠ g) (hO : ¬ O b) : w1.heap[b]? = some o :=
  blk_kept hb h.1 (fun h => h.elim hg hO)
end
end Go.Proofs.Ytadaopfcgpfiiaa
namespace Go.Proofs.Ytadaopfcgpfiiaa
open Go.RowKit Go.Proofs.YtadaopfcgpfiiaaW.PrintWords Go.Proofs.YtadaopfcgpfiiaaW.PrintLast Go.Proofs.YtadaopfcgpfiiaaW.PrintMore PCg
set_option linter.unusedVariables false
set_option linter.unusedSimpArgs false
def GSt.emit (st : GSt) (l : List S53) : GSt := { st with code := st.code ++ l }
/-- what a method leaves: the generator with the state st', all else kept -/
def GPost (B g : Nat) (O : Nat → Prop) (E : GEnv) (w : World) (st' : GSt) (w' : World) : Prop :=
  ∃ O' : Nat → Prop, Gen w' B g O' E st' ∧ (∀ k, O' k → O k ∨ w.heap.size ≤ k) ∧ GKept B g O w w'
/-- two methods in a row -/
theorem GPost.trans {B g : Nat} {O O1 : Nat → Prop} {E : GEnv} {w w1 w2 : World} {st2 : GSt} (h : GKept B g O w w1) (hO : ∀ k, O1 k → O k ∨ w.heap.size ≤ k) (k : GPost B g O1 E w1 st2 w2) : GPost B g O E w st2 w2 := by
  obtain ⟨O2, hG, hO2, hk⟩ := k
  refine ⟨O2, hG, fun i hi => ?_, h.trans hk hO⟩
  rcases hO2 i hi with h' | h'
  · exact hO i h'
  · exact .inr (Nat.le_trans h.1.1 h')
/-- what only makes, ahead of a method -/
theorem GPost.pre {B g : Nat} {O : Nat → Prop} {E : GEnv} {w w1 w2 : World} {st2 : GSt} (hB : B ≤ w.heap.size) (h : Below w.heap.size w w1) (k : GPost B g O E w1 st2 w2) : GPost B g O E w st2 w2 := by
  obtain ⟨O2, hG, hO2, hk⟩ := k
  refine ⟨O2, hG, fun i hi => ?_, GKept.pre hB h hk⟩
  rcases hO2 i hi with h' | h'
  · exact .inl h'
  · exact .inr (Nat.le_trans h.size h')
/-- what only makes, behind a method -/
theorem GPost.below {B g : Nat} {O : Nat → Prop} {E : GEnv} {w w1 w2 : World} {st : GSt} (h : GPost B g O E w st w1) (k : Below w1.heap.size w1 w2) : GPost B g O E w st w2 := by
  obtain ⟨O2, hG, hO2, hk⟩ := h
  refine ⟨O2, hG.below k, hO2, hk.below ?_ k⟩
  obtain ⟨_, _, _, _, _, _, hw, _⟩ := hG
  exact hw
theorem GPost.same {B g : Nat} {O : Nat → Prop} {E : GEnv} {w : World} {st : GSt} (h : Gen w B g O E st) : GPost B g O E w st w := ⟨O, h, fun _ h => .inl h, GKept.refl _ _ _ _⟩
theorem gpost_cell11 {B g : Nat} {O : Nat → Prop} {E : GEnv} {w w1 : World} {st : GSt} (h : GPost B g O E w st w1) : w1.cell? ⟨g, 11, none⟩ = some (.int .i64 E.spill) := by
  obtain ⟨O2, ⟨vc, vr, vs, vp, hb, _⟩, _⟩ := h
  exact (blk_cell hb 11).trans rfl
theorem gpost_cell10 {B g : Nat} {O : Nat → Prop} {E : GEnv} {w w1 : World} {st : GSt} (h : GPost B g O E w st w1) : w1.cell? ⟨g, 10, none⟩ = some (.map (some E.mb)) := by
  obtain ⟨O2, ⟨vc, vr, vs, vp, hb, _⟩, _⟩ := h
  exact (blk_cell hb 10).trans rfl
theorem gpost_blk {B g b : Nat} {O : Nat → Prop} {E : GEnv} {w w1 : World} {st : GSt} {o : Obj} (h : GPost B g O E w st w1) (hb : w.heap[b]? = some o) (hg : b ≠ g) (hO : ¬ O b) : w1.heap[b]? = some o := by
  obtain ⟨O2, _, _, hk⟩ := h
  exact hk.blk hb hg hO
theorem gpost_size {B g : Nat} {O : Nat → Prop} {E : GEnv} {w w1 : World} {st : GSt} (h : GPost B g O E w st w1) : w.heap.size ≤ w1.heap.size := by
  obtain ⟨O2, _, _, hk⟩ := h
  exact hk.1.1
theorem gpost_below {B g : Nat} {O : Nat → Prop} {E : GEnv} {w w1 : World} {st : GSt} (h : GPost B g O E w st w1) : Below B w w1 := by
  obtain ⟨O2, _, _, hk⟩ := h
  exact hk.2
theorem gput_code {W w1 : World} {B g : Nat} {O : Nat → Prop} {E : GEnv} {st : GSt} {vc vr vs vp v1 : Value} {xs : List S53} (hb : W.heap[g]? = some (.cells (gcells E vc vr vs vp) 90 (0, 0))) (hBg : B ≤ g) (hBw : B ≤ W.heap.size) (hO : ∀ k, O k → k < W.heap.size)
    (r1 : Kd.R k53 53 W B O vc st.code) (r2 : Kd.R k105 105 W B O vr st.refs) (r3 : Kd.R (Kd.int .i64) 3 W B O vs st.starts) (r4 : Kd.R kTwo 94 W B O vp st.patches) (hg1 : W.grownBy w1 vc.ownBlock) (hB1 : Below B W w1) (hN : Kd.R k53 53 w1 B (fun k => O k ∨ W.heap.size ≤ k) v1 xs) :
    GPost B g O E W { st with code := xs } (w1.setCell ⟨g, 1, none⟩ v1) := by
  have hne : some g ≠ vc.ownBlock := Kd.R_ne r1 hb (by decide)
  have hb1 := blk_grown hb hg1 hne
  have hlt := blk_lt hb
  have hk : Kept W (w1.setCell ⟨g, 1, none⟩ v1) (fun k => k = g ∨ O k) :=
    Kept.setCell (Kept.of_grown hg1 (Kept.refl W _) (fun k hk => .inl (.inr (r1.1 k hk)))) (.inl (.inl rfl)) v1
  refine ⟨fun k => (O k ∨ W.heap.size ≤ k) ∧ k < w1.heap.size, ⟨v1, vr, vs, vp, ?_, hBg, by simpa [World.setCell] using Nat.le_trans hBw hg1.size, fun k h => by simpa [World.setCell] using h.2, Kd.R_set (Kd.R_mono (Kd.R_bound hN) (fun k h => ⟨h.1, h.2.2.1⟩)) hb1 (by decide) 1 v1, Kd.R_set (Kd.R_mono (Kd.R_over r2 r1 (by decide) hg1) (fun k h => ⟨.inl h, Nat.lt_of_lt_of_le (hO k h) hg1.size⟩)) hb1 (by decide) 1 v1, Kd.R_set (Kd.R_mono (Kd.R_over r3 r1 (by decide) hg1) (fun k h => ⟨.inl h, Nat.lt_of_lt_of_le (hO k h) hg1.size⟩)) hb1 (by decide) 1 v1, Kd.R_set (Kd.R_mono (Kd.R_over r4 r1 (by decide) hg1) (fun k h => ⟨.inl h, Nat.lt_of_lt_of_le (hO k h) hg1.size⟩)) hb1 (by decide) 1 v1⟩, fun k h => h.1, hk, hB1.setCell (p := ⟨g, 1, none⟩) hBg v1⟩
  exact (blk_set hb1 1 v1).trans rfl
theorem gput_refs {W w1 : World} {B g : Nat} {O : Nat → Prop} {E : GEnv} {st : GSt} {vc vr vs vp v1 : Value} {xs : List S105} (hb : W.heap[g]? = some (.cells (gcells E vc vr vs vp) 90 (0, 0))) (hBg : B ≤ g) (hBw : B ≤ W.heap.size) (hO : ∀ k, O k → k < W.heap.size)
    (r1 : Kd.R k53 53 W B O vc st.code) (r2 : Kd.R k105 105 W B O vr st.refs) (r3 : Kd.R (Kd.int .i64) 3 W B O vs st.starts) (r4 : Kd.R kTwo 94 W B O vp st.patches) (hg1 : W.grownBy w1 vr.ownBlock) (hB1 : Below B W w1) (hN : Kd.R k105 105 w1 B (fun k => O k ∨ W.heap.size ≤ k) v1 xs) :
    GPost B g O E W { st with refs := xs } (w1.setCell ⟨g, 3, none⟩ v1) := by
  have hne : some g ≠ vr.ownBlock := Kd.R_ne r2 hb (by decide)
  have hb1 := blk_grown hb hg1 hne
  have hlt := blk_lt hb
  have hk : Kept W (w1.setCell ⟨g, 3, none⟩ v1) (fun k => k = g ∨ O k) :=
    Kept.setCell (Kept.of_grown hg1 (Kept.refl W _) (fun k hk => .inl (.inr (r2.1 k hk)))) (.inl (.inl rfl)) v1
  refine ⟨fun k => (O k ∨ W.heap.size ≤ k) ∧ k < w1.heap.size, ⟨vc, v1, vs, vp, ?_, hBg, by simpa [World.setCell] using Nat.le_trans hBw hg1.size, fun k h => by simpa [World.setCell] using h.2, Kd.R_set (Kd.R_mono (Kd.R_over r1 r2 (by decide) hg1) (fun k h => ⟨.inl h, Nat.lt_of_lt_of_le (hO k h) hg1.size⟩)) hb1 (by decide) 3 v1, Kd.R_set (Kd.R_mono (Kd.R_bound hN) (fun k h => ⟨h.1, h.2.2.1⟩)) hb1 (by decide) 3 v1, Kd.R_set (Kd.R_mono (Kd.R_over r3 r2 (by decide) hg1) (fun k h => ⟨.inl h, Nat.lt_of_lt_of_le (hO k h) hg1.size⟩)) hb1 (by decide) 3 v1, Kd.R_set (Kd.R_mono (Kd.R_over r4 r2 (by decide) hg1) (fun k h => ⟨.inl h, Nat.lt_of_lt_of_le (hO k h) hg1.size⟩)) hb1 (by decide) 3 v1⟩, fun k h => h.1, hk, hB1.setCell (p := ⟨g, 3, none⟩) hBg v1⟩
  exact (blk_set hb1 3 v1).trans rfl
theorem gput_starts {W w1 : World} {B g : Nat} {O : Nat → Prop} {E : GEnv} {st : GSt} {vc vr vs vp v1 : Value} {xs : List Int} (hb : W.heap[g]? = some (.cells (gcells E vc vr vs vp) 90 (0, 0))) (hBg : B ≤ g) (hBw : B ≤ W.heap.size) (hO : ∀ k, O k → k < W.heap.size)
    (r1 : Kd.R k53 53 W B O vc st.code) (r2 : Kd.R k105 105 W B O vr st.refs) (r3 : Kd.R (Kd.int .i64) 3 W B O vs st.starts) (r4 : Kd.R kTwo 94 W B O vp st.patches) (hg1 : W.grownBy w1 vs.ownBlock) (hB1 : Below B W w1) (hN : Kd.R (Kd.int .i64) 3 w1 B (fun k => O k ∨ W.heap.size ≤ k) v1 xs) :
    GPost B g O E W { st with starts := xs } (w1.setCell ⟨g, 12, none⟩ v1) := by
  have hne : some g ≠ vs.ownBlock := Kd.R_ne r3 hb (by decide)
  have hb1 := blk_grown hb hg1 hne
  have hlt := blk_lt hb
  have hk : Kept W (w1.setCell ⟨g, 12, none⟩ v1) (fun k => k = g ∨ O k) :=
    Kept.setCell (Kept.of_grown hg1 (Kept.refl W _) (fun k hk => .inl (.inr (r3.1 k hk)))) (.inl (.inl rfl)) v1
  refine ⟨fun k => (O k ∨ W.heap.size ≤ k) ∧ k < w1.heap.size, ⟨vc, vr, v1, vp, ?_, hBg, by simpa [World.setCell] using Nat.le_trans hBw hg1.size, fun k h => by simpa [World.setCell] using h.2, Kd.R_set (Kd.R_mono (Kd.R_over r1 r3 (by decide) hg1) (fun k h => ⟨.inl h, Nat.lt_of_lt_of_le (hO k h) hg1.size⟩)) hb1 (by decide) 12 v1, Kd.R_set (Kd.R_mono (Kd.R_over r2 r3 (by decide) hg1) (fun k h => ⟨.inl h, Nat.lt_of_lt_of_le (hO k h) hg1.size⟩)) hb1 (by decide) 12 v1, Kd.R_set (Kd.R_mono (Kd.R_bound hN) (fun k h => ⟨h.1, h.2.2.1⟩)) hb1 (by decide) 12 v1, Kd.R_set (Kd.R_mono (Kd.R_over r4 r3 (by decide) hg1) (fun k h => ⟨.inl h, Nat.lt_of_lt_of_le (hO k h) hg1.size⟩)) hb1 (by decide) 12 v1⟩, fun k h => h.1, hk, hB1.setCell (p := ⟨g, 12, none⟩) hBg v1⟩
  exact (blk_set hb1 12 v1).trans rfl
theorem gput_patches {W w1 : World} {B g : Nat} {O : Nat → Prop} {E : GEnv} {st : GSt} {vc vr vs vp v1 : Value} {xs : List (Int × Int)} (hb : W.heap[g]? = some (.cells (gcells E vc vr vs vp) 90 (0, 0))) (hBg : B ≤ g) (hBw : B ≤ W.heap.size) (hO : ∀ k, O k → k < W.heap.size)
    (r1 : Kd.R k53 53 W B O vc st.code) (r2 : Kd.R k105 105 W B O vr st.refs) (r3 : Kd.R (Kd.int .i64) 3 W B O vs st.starts) (r4 : Kd.R kTwo 94 W B O vp st.patches) (hg1 : W.grownBy w1 vp.ownBlock) (hB1 : Below B W w1) (hN : Kd.R kTwo 94 w1 B (fun k => O k ∨ W.heap.size ≤ k) v1 xs) :
    GPost B g O E W { st with patches := xs } (w1.setCell ⟨g, 13, none⟩ v1) := by
  have hne : some g ≠ vp.ownBlock := Kd.R_ne r4 hb (by decide)
  have hb1 := blk_grown hb hg1 hne
  have hlt := blk_lt hb
  have hk : Kept W (w1.setCell ⟨g, 13, none⟩ v1) (fun k => k = g ∨ O k) :=
    Kept.setCell (Kept.of_grown hg1 (Kept.refl W _) (fun k hk => .inl (.inr (r4.1 k hk)))) (.inl (.inl rfl)) v1
  refine ⟨fun k => (O k ∨ W.heap.size ≤ k) ∧ k < w1.heap.size, ⟨vc, vr, vs, v1, ?_, hBg, by simpa [World.setCell] using Nat.le_trans hBw hg1.size, fun k h => by simpa [World.setCell] using h.2, Kd.R_set (Kd.R_mono (Kd.R_over r1 r4 (by decide) hg1) (fun k h => ⟨.inl h, Nat.lt_of_lt_of_le (hO k h) hg1.size⟩)) hb1 (by decide) 13 v1, Kd.R_set (Kd.R_mono (Kd.R_over r2 r4 (by decide) hg1) (fun k h => ⟨.inl h, Nat.lt_of_lt_of_le (hO k h) hg1.size⟩)) hb1 (by decide) 13 v1, Kd.R_set (Kd.R_mono (Kd.R_over r3 r4 (by decide) hg1) (fun k h => ⟨.inl h, Nat.lt_of_lt_of_le (hO k h) hg1.size⟩)) hb1 (by decide) 13 v1, Kd.R_set (Kd.R_mono (Kd.R_bound hN) (fun k h => ⟨h.1, h.2.2.1⟩)) hb1 (by decide) 13 v1⟩, fun k h => h.1, hk, hB1.setCell (p := ⟨g, 13, none⟩) hBg v1⟩
  exact (blk_set hb1 13 v1).trans rfl
end Go.Proofs.Ytadaopfcgpfiiaa
namespace Go.Proofs.Ytadaopfcgpfiiaa
open Go.RowKit Go.Proofs.YtadaopfcgpfiiaaW.PrintWords Go.Proofs.YtadaopfcgpfiiaaW.PrintLast Go.Proofs.YtadaopfcgpfiiaaW.PrintMore PCg
set_option linter.unusedVariables false
set_option linter.unusedSimpArgs false
/-- the register in which a virtual register with a place is found, and the instruction that loads it there -/
def useReg (p : Int × Int) (into : Int) : Int := if p.2 < 0 then p.1 else into
def useCode (spill : Int) (p : Int × Int) (into : Int) : List S53 := if p.2 < 0 then [] else [⟨18, into, 0, 0, spill + p.2⟩]
theorem useCode_len (spill : Int) (p : Int × Int) (into : Int) : (useCode spill p into).length ≤ 1 := by unfold useCode; split <;> simp
/-- a slice of one instruction, in its box -/
theorem one_instr {W : World} {b t : Nat} {i : S53} (h : W.heap[b]? = some (.cells #[.int .u8 i.f0, .int .i64 i.f1, .int .i64 i.f2, .int .i64 i.f3, .int .i64 i.f4] t (0, 0))) : Kd.C k53 W (some ⟨b, 0, none⟩) 1 [i] := by
  refine ⟨rfl, by omega, fun _ => ⟨⟨b, 0, none⟩, rfl, fun j p hj => ?_⟩⟩
  match j, hj with
  | 0, hj =>
    have hp : i = p := by simpa using hj
    subst hp
    refine ⟨[.int .u8 i.f0, .int .i64 i.f1, .int .i64 i.f2, .int .i64 i.f3, .int .i64 i.f4], rfl, k53_mk W i, fun q u hu => ?_⟩
    have ha : (⟨b, 0, none⟩ : Addr).add (0 * k53.sz + q) = ⟨b, q, none⟩ := by rw [Nat.zero_mul, Nat.zero_add]; exact add_plain b q
    rw [ha, blk_cell h q]
    simpa using hu
  | j + 1, hj => simp at hj
/-- emit of one instruction, in its box -/
theorem emit1_any (B g : Nat) (O : Nat → Prop) (E : GEnv) (st : GSt) (b t : Nat) (op a bb cc imm : Int) (w : World)
    (hG : Gen w B g O E st) (hb : w.heap[b]? = some (.cells #[.int .u8 op, .int .i64 a, .int .i64 bb, .int .i64 cc, .int .i64 imm] t (0, 0))) (hsz : st.code.length + 1 ≤ 1000000) :
    Calls Try.prog 29 #[.pointer (some ⟨g, 0, none⟩), .slice (some ⟨b, 0, none⟩) 1 1] w fun e w' => e = .returned (.tuple #[]) ∧ GPost B g O E w (st.emit [⟨op, a, bb, cc, imm⟩]) w' :=
  emit_any B g O E st _ 1 [⟨op, a, bb, cc, imm⟩] w hG (one_instr hb) (Nat.le_refl _) hsz
set_option maxRecDepth 100000 in
set_option maxHeartbeats 1000000 in
theorem use_any (w0 : World) (g : Nat) (O : Nat → Prop) (E : GEnv) (st : GSt) (Ap : Option Addr) (cp : Nat) (places : List (Int × Int)) (v into : Int) (w : World)
    (hG : Gen w w0.heap.size g O E st) (hB : Below w0.heap.size w0 w) (hP : Kd.C kTwo w0 Ap places.length places) (hpv : E.pv = .slice Ap places.length cp)
    (v0 : 0 ≤ v) (v1 : v < places.length) (s0 : 0 ≤ E.spill) (s1 : E.spill ≤ 1000000) (p1 : (rdTwo places v).2 ≤ 1000000) (hsz : st.code.length + 1 ≤ 1000000) :
    Calls Try.prog 51 #[.pointer (some ⟨g, 0, none⟩), .int .i64 v, .int .i64 into] w
      fun e w' => e = .returned (.int .i64 (useReg (rdTwo places v) into)) ∧ GPost w0.heap.size g O E w (st.emit (useCode E.spill (rdTwo places v) into)) w' := by
  have HG := Aside0.mk hG
  obtain ⟨vc, vr, vs, vp, hb, hBg, hBw, hO, -⟩ := hG
  have HO := Aside0.mk hO; clear hO
  have c8 : w.cell? ⟨g, 8, none⟩ = some (.slice Ap places.length cp) := (blk_cell hb 8).trans (by rw [← hpv]; rfl)
  have c11 : w.cell? ⟨g, 11, none⟩ = some (.int .i64 E.spill) := (blk_cell hb 11).trans rfl
  have hlt := blk_lt hb
  have HBk := Aside0.mk hb
  obtain ⟨ad, hA, q0, q1⟩ := atTwo hP v v0 v1
  cases hA
  replace q0 := (hB.cell (World.block_lt_of_cell? w0 _ q0)).trans q0
  replace q1 := (hB.cell (World.block_lt_of_cell? w0 _ q1)).trans q1
  have HB := Aside0.mk hB
  have HPV := Aside0.mk hpv
  clear hP hB hb hpv
  have p110 := eq_true v0
  have q110 := eq_true v1
  have hu := Try.underlying131
  have hu2 := Try.underlying90
  generalize rdTwo places v = p at *
  by_cases hs : p.2 < 0
  · go_enter Try.func51, Try.ntmps51
    go_wp2
    go_ret
    refine ⟨reti (by simp [useReg, hs]), ?_⟩
    have he : st.emit (useCode E.spill p into) = st := by simp [useCode, hs, GSt.emit]
    rw [he]
    exact (GPost.same HG.out).below (below_alloc (Below.refl _ _) _)
  · go_enter Try.func51, Try.ntmps51
    go_wp2_with fail
    have HG6 := Aside0.mk (HG.out.below (below_alloc (Below.refl _ _) (.cells #[.int .i64 p.1, .int .i64 p.2] 131)))
    have BP6 := blk_new w (.cells #[.int .i64 p.1, .int .i64 p.2] 131)
    have c11' : (w.alloc (.cells #[.int .i64 p.1, .int .i64 p.2] 131)).cell? ⟨g, 11, none⟩ = some (.int .i64 E.spill) := by rw [World.cell?_alloc_lt w _ ⟨g, 11, none⟩ hlt]; exact c11
    obtain ⟨b0, b1⟩ := blk2 BP6
    have hy1 := blk_lt BP6
    have hlt6 : g < (w.alloc (.cells #[.int .i64 p.1, .int .i64 p.2] 131)).heap.size := by simp; omega
    have HBP := Aside0.mk BP6
    have HW6 : Aside0 (Below w.heap.size w (w.alloc (.cells #[.int .i64 p.1, .int .i64 p.2] 131))) := ⟨below_alloc (Below.refl _ _) _⟩
    clear BP6 q0 q1 c8 c11 HBk
    generalize w.alloc (.cells #[.int .i64 p.1, .int .i64 p.2] 131) = w6 at *
    have hne : w.heap.size ≠ g := by omega
    have hnO : ¬ O w.heap.size := fun h => by have := HO.out _ h; omega
    have q0 : 0 ≤ p.2 := by omega
    have hw : IntKind.i64.wrap (E.spill + p.2) = E.spill + p.2 := IntWalk.i64_in _ (by omega)
    go_region_held3 (fun W => W.cell? ⟨g, 11, none⟩ = some (.int .i64 E.spill) ∧ W.cell? ⟨w.heap.size, 1, none⟩ = some (.int .i64 p.2))
      (first
        | go_keep
        | exact ⟨gpost_cell11 hq.out, (blk_cell (gpost_blk hq.out (blk_drew (blk_alloc HBP.out _)) hne hnO) 1).trans rfl⟩)
      (first
        | (go_at_call 29
           refine (emit1_any w0.heap.size g O E st _ 53 18 into 0 0 (E.spill + p.2) _ (Gen.below HG6.out ?_) ?_ hsz).mono ?_
           (exact below_drew (below_alloc (Below.refl _ _) _))
           (exact blk_drew (blk_new _ _))
           rintro e w9 ⟨rfl, hq9⟩
           have hq := Aside0.mk hq9; clear hq9))
    go_wp2
    go_ret
    refine ⟨reti (by rw [useReg, if_neg (by omega)]), ?_⟩
    rw [show useCode E.spill p into = [⟨18, into, 0, 0, E.spill + p.2⟩] from by rw [useCode, if_neg (by omega)]]
    exact GPost.pre hBw (below_step HW6.out (below_drew (below_alloc (Below.refl _ _) _))) hq.out
set_option maxRecDepth 100000 in
set_option maxHeartbeats 400000 in
theorem define1_any (w : World) : Calls Try.prog 112 #[] w fun e w' => e = .returned (.tuple #[]) ∧ w = w' := by
  go_enter Try.func112, Try.ntmps112
  go_wp2
  go_end0
  exact ⟨rfl, rfl⟩
/-- the store of a spilled result -/
def storeCode (spill : Int) (p : Int × Int) : List S53 := if p.2 < 0 then [] else [⟨19, 14, 0, 0, spill + p.2⟩]
theorem storeCode_len (spill : Int) (p : Int × Int) : (storeCode spill p).length ≤ 1 := by unfold storeCode; split <;> simp
set_option maxRecDepth 100000 in
set_option maxHeartbeats 1000000 in
theorem define2_any (B g b2 b6 : Nat) (O : Nat → Prop) (E : GEnv) (st : GSt) (p : Int × Int) (w : World)
    (hG : Gen w B g O E st) (h2 : w.heap[b2]? = some (.cells #[.pointer (some ⟨g, 0, none⟩)] 86 (0, 0))) (h6 : w.heap[b6]? = some (.cells #[.int .i64 p.1, .int .i64 p.2] 131 (0, 0)))
    (n2 : b2 ≠ g) (o2 : ¬ O b2) (n6 : b6 ≠ g) (o6 : ¬ O b6)
    (s0 : 0 ≤ E.spill) (s1 : E.spill ≤ 1000000) (q0 : 0 ≤ p.2) (p1 : p.2 ≤ 1000000) (hsz : st.code.length + 1 ≤ 1000000) :
    Calls Try.prog 113 #[.pointer (some ⟨b2, 0, none⟩), .pointer (some ⟨b6, 0, none⟩)] w
      fun e w' => e = .returned (.tuple #[]) ∧ GPost B g O E w (st.emit [⟨19, 14, 0, 0, E.spill + p.2⟩]) w' := by
  have HG := Aside0.mk hG
  obtain ⟨vc, vr, vs, vp, hb, hBg, hBw, hO, -⟩ := hG
  have c11 : w.cell? ⟨g, 11, none⟩ = some (.int .i64 E.spill) := (blk_cell hb 11).trans rfl
  have hlt := blk_lt hb
  have e0 := blk1 h2
  have hlt2 := blk_lt h2
  obtain ⟨b0, b1⟩ := blk2 h6
  have hlt6 := blk_lt h6
  have H2 := Aside0.mk h2; have H6 := Aside0.mk h6
  clear hb h2 h6 hO
  have hu2 := Try.underlying90
  have hu3 := Try.underlying131
  have hw : IntKind.i64.wrap (E.spill + p.2) = E.spill + p.2 := IntWalk.i64_in _ (by omega)
  go_enter Try.func113, Try.ntmps113
  go_region_held3 (fun W => W.cell? ⟨g, 11, none⟩ = some (.int .i64 E.spill) ∧ W.cell? ⟨b6, 1, none⟩ = some (.int .i64 p.2) ∧ W.cell? ⟨b2, 0, none⟩ = some (.pointer (some ⟨g, 0, none⟩)))
    (first
      | go_keep
      | exact ⟨gpost_cell11 hq.out, (blk_cell (gpost_blk hq.out (blk_drew (blk_alloc H6.out _)) n6 o6) 1).trans rfl, (blk_cell (gpost_blk hq.out (blk_drew (blk_alloc H2.out _)) n2 o2) 0).trans rfl⟩)
    (first
      | (go_at_call 29
         refine (emit1_any B g O E st _ 53 19 14 0 0 (E.spill + p.2) _ (Gen.below HG.out ?_) ?_ hsz).mono ?_
         (exact below_drew (below_alloc (Below.refl _ _) _))
         (exact blk_drew (blk_new _ _))
         rintro e w9 ⟨rfl, hq9⟩
         have hq := Aside0.mk hq9; clear hq9))
  go_wp2
  go_end0
  exact ⟨rfl, GPost.pre hBw (below_drew (below_alloc (Below.refl _ _) _)) hq.out⟩
/-- define: the register of the result; the function that stores it -/
set_option maxRecDepth 100000 in
set_option maxHeartbeats 1000000 in
theorem define_any (w0 : World) (g : Nat) (O : Nat → Prop) (E : GEnv) (st : GSt) (Ap : Option Addr) (cp : Nat) (places : List (Int × Int)) (v : Int) (w : World)
    (hG : Gen w w0.heap.size g O E st) (hB : Below w0.heap.size w0 w) (hP : Kd.C kTwo w0 Ap places.length places) (hpv : E.pv = .slice Ap places.length cp)
    (v0 : 0 ≤ v) (v1 : v < places.length) :
    Calls Try.prog 97 #[.pointer (some ⟨g, 0, none⟩), .int .i64 v] w
      fun e w' => Below w.heap.size w w' ∧ w'.heap[w.heap.size]? = some (.cells #[.pointer (some ⟨g, 0, none⟩)] 86 (0, 0)) ∧
        w'.heap[w.heap.size + 1]? = some (.cells #[.int .i64 (rdTwo places v).1, .int .i64 (rdTwo places v).2] 131 (0, 0)) ∧
        e = .returned (.tuple #[.int .i64 (useReg (rdTwo places v) 14), if (rdTwo places v).2 < 0 then .func (.func 112) #[] #[] else .func (.func 113) #[] #[.pointer (some ⟨w.heap.size, 0, none⟩), .pointer (some ⟨w.heap.size + 1, 0, none⟩)]]) := by
  obtain ⟨vc, vr, vs, vp, hb, hBg, hBw, hO, -⟩ := hG
  have c8 : w.cell? ⟨g, 8, none⟩ = some (.slice Ap places.length cp) := (blk_cell hb 8).trans (by rw [← hpv]; rfl)
  have hlt := blk_lt hb
  obtain ⟨ad, hA, q0, q1⟩ := atTwo hP v v0 v1
  cases hA
  replace q0 := (hB.cell (World.block_lt_of_cell? w0 _ q0)).trans q0
  replace q1 := (hB.cell (World.block_lt_of_cell? w0 _ q1)).trans q1
  have hlq := World.block_lt_of_cell? w _ q0
  clear hP hB hb hpv hO
  have p110 := eq_true v0
  have q110 := eq_true v1
  have hu := Try.underlying131
  have hu2 := Try.underlying90
  generalize rdTwo places v = p at *
  have hfin : ∀ W, W = (w.alloc (.cells #[.pointer (some ⟨g, 0, none⟩)] 86)).alloc (.cells #[.int .i64 p.1, .int .i64 p.2] 131) → Below w.heap.size w W ∧ W.heap[w.heap.size]? = some (.cells #[.pointer (some ⟨g, 0, none⟩)] 86 (0, 0)) ∧ W.heap[w.heap.size + 1]? = some (.cells #[.int .i64 p.1, .int .i64 p.2] 131 (0, 0)) := by
    rintro W rfl
    exact ⟨((Below.refl _ _).alloc (Nat.le_refl _) _).alloc (by simp) _, blk_alloc (blk_new _ _) _, heap_alloc_at _ _ _ (by simp)⟩
  have HF := Aside0.mk hfin
  clear hfin
  by_cases hs : p.2 < 0
  · go_enter Try.func97, Try.ntmps97
    go_wp2
    go_ret2
    obtain ⟨f1, f2, f3⟩ := HF.out _ rfl
    exact ⟨f1, f2, f3, by simp [useReg, hs]⟩
  · go_enter Try.func97, Try.ntmps97
    go_wp2
    go_ret2
    obtain ⟨f1, f2, f3⟩ := HF.out _ rfl
    refine ⟨f1, f2, f3, ?_⟩
    have hs' : ¬ p.2 < 0 := by omega
    simp [useReg, hs']
end Go.Proofs.Ytadaopfcgpfiiaa
namespace Go.Proofs.Ytadaopfcgpfiiaa
open Go.RowKit Go.Proofs.YtadaopfcgpfiiaaW.PrintWords Go.Proofs.YtadaopfcgpfiiaaW.PrintLast Go.Proofs.YtadaopfcgpfiiaaW.PrintMore PCg
set_option linter.unusedVariables false
set_option linter.unusedSimpArgs false
/-- whether an opcode accesses a shared object; whether it uses its lock -/
def isRef (op : Int) : Bool := op == 20 || op == 21 || op == 28 || op == 29
def isLock (op : Int) : Bool := op == 28 || op == 29
set_option maxHeartbeats 400000 in
theorem reference_any (op : Int) (w : World) :
    Calls Try.prog 38 #[.int .u8 op] w fun e w' => e = .returned (.tuple #[.bool (isRef op), .bool (isLock op)]) ∧ w = w' := by
  go_enter Try.func38, Try.ntmps38
  go_wp2
  all_goals (go_ret2; refine ⟨?_, rfl⟩; simp_all [isRef, isLock])
  all_goals omega
theorem one_ref {W : World} {b t : Nat} {i : S105} (h : W.heap[b]? = some (.cells #[.int .i64 i.f0, .string i.f1, .bool i.f2] t (0, 0))) : Kd.C k105 W (some ⟨b, 0, none⟩) 1 [i] := by
  refine ⟨rfl, by omega, fun _ => ⟨⟨b, 0, none⟩, rfl, fun j p hj => ?_⟩⟩
  match j, hj with
  | 0, hj =>
    have hp : i = p := by simpa using hj
    subst hp
    refine ⟨[.int .i64 i.f0, .string i.f1, .bool i.f2], rfl, k105_mk W i, fun q u hu => ?_⟩
    have ha : (⟨b, 0, none⟩ : Addr).add (0 * k105.sz + q) = ⟨b, q, none⟩ := by rw [Nat.zero_mul, Nat.zero_add]; exact add_plain b q
    rw [ha, blk_cell h q]
    simpa using hu
  | j + 1, hj => simp at hj
set_option maxRecDepth 100000 in
set_option maxHeartbeats 2000000 in
theorem shared_any (B g : Nat) (O : Nat → Prop) (E : GEnv) (st : GSt) (i : S53) (nm : ByteArray) (w : World)
    (hG : Gen w B g O E st) (hsz : st.code.length + 1 ≤ 1000000) (hrz : st.refs.length + 1 ≤ 1000000) :
    Calls Try.prog 76 #[.pointer (some ⟨g, 0, none⟩), .agg #[.int .u8 i.f0, .int .i64 i.f1, .int .i64 i.f2, .int .i64 i.f3, .int .i64 i.f4], .string nm] w
      fun e w' => e = .returned (.tuple #[]) ∧ GPost B g O E w { st with code := st.code ++ [i], refs := st.refs ++ [⟨st.code.length, nm, isLock i.f0⟩] } w' := by
  obtain ⟨W, hW⟩ : ∃ W, w.alloc (.cells #[.int .u8 i.f0, .int .i64 i.f1, .int .i64 i.f2, .int .i64 i.f3, .int .i64 i.f4] 53) = W := ⟨_, rfl⟩
  have hBw : Below w.heap.size w W := by rw [← hW]; exact below_alloc (Below.refl _ _) _
  have hb4 : W.heap[w.heap.size]? = some (.cells #[.int .u8 i.f0, .int .i64 i.f1, .int .i64 i.f2, .int .i64 i.f3, .int .i64 i.f4] 53 (0, 0)) := by rw [← hW]; exact blk_new _ _
  have HGW := Aside0.mk (hG.below hBw)
  have hg0 := hG.lt
  have HO0 : Aside0 (¬ O w.heap.size) := ⟨fun h => by obtain ⟨_, _, _, _, _, _, _, hO, _⟩ := hG; have := hO _ h; omega⟩
  have HBB : Aside0 (B ≤ w.heap.size) := ⟨by obtain ⟨_, _, _, _, _, _, h, _⟩ := hG; exact h⟩
  clear hG
  obtain ⟨vc, vr, vs, vp, hb, hBg, hBW, hO, r1, r2, r3, r4⟩ := HGW.out
  have c1 : W.cell? ⟨g, 1, none⟩ = some vc := (blk_cell hb 1).trans rfl
  have c3 : W.cell? ⟨g, 3, none⟩ = some vr := (blk_cell hb 3).trans rfl
  have f3 : W.frozen? ⟨g, 3, none⟩ = false := blk_frozen hb 3
  have hlt := blk_lt hb
  have hne : some g ≠ vr.ownBlock := Kd.R_ne r2 hb (by decide)
  obtain ⟨Ac, cc, hvc⟩ := Kd.R_slice r1
  obtain ⟨Ar, cr, hvr⟩ := Kd.R_slice r2
  subst hvc hvr
  obtain ⟨i0, i1, i2, i3, i4⟩ := blk5 hb4
  have hl4 := blk_lt hb4
  have HB := Aside0.mk hb; have HO := Aside0.mk hO; have HR1 := Aside0.mk r1; have HR2 := Aside0.mk r2; have HR3 := Aside0.mk r3; have HR4 := Aside0.mk r4; have H4 := Aside0.mk hb4; have HBw := Aside0.mk hBw
  clear hb hO r1 r2 r3 r4 hb4 hBw
  have hu := Try.underlying53
  have hu2 := Try.underlying90
  have hu3 := Try.underlying31
  go_enter Try.func76, Try.ntmps76
  go_wp2_with (first | (go_at_call 38; refine (reference_any _ _).mono ?_; rintro e w' ⟨rfl, rfl⟩))
  obtain ⟨W7, hW7⟩ : ∃ W7, (W.alloc (.cells #[.int .i64 st.code.length, .string nm, .bool (isLock i.f0)] 105)).drew = W7 := ⟨_, rfl⟩
  have HB7 : Aside0 (Below W.heap.size W W7) := ⟨by rw [← hW7]; exact below_drew (below_alloc (Below.refl _ _) _)⟩
  have HR7 : Aside0 (Kd.C k105 W7 (some ⟨W.heap.size, 0, none⟩) 1 [(⟨st.code.length, nm, isLock i.f0⟩ : S105)]) := ⟨by rw [← hW7]; exact one_ref (blk_drew (blk_new _ _))⟩
  have hB7 := Nat.le_trans hBW HB7.out.size
  have HO7 := Aside0.mk (Kd.R_mono (ok' := fun k => O k ∨ W7.heap.size ≤ k) (Kd.R_below HR2.out HB7.out) (fun _ h => .inl h))
  have HG7 := Aside0.mk (Gen.below HGW.out HB7.out)
  have hb7 := blk_below HB.out HB7.out
  have d1 : W7.cell? ⟨g, 1, none⟩ = some (.slice Ac st.code.length cc) := (blk_cell hb7 1).trans rfl
  have d3 : W7.cell? ⟨g, 3, none⟩ = some (.slice Ar st.refs.length cr) := (blk_cell hb7 3).trans rfl
  have e3 : W7.frozen? ⟨g, 3, none⟩ = false := blk_frozen hb7 3
  have hlt7 := blk_lt hb7
  have HBk7 := Aside0.mk hb7
  clear hb7
  go_region_law ((refine Kd.R_append_rows_step k105 (Rr := k105.K W7) (w0 := W7) (W := W7) B rfl (.tmp 19) (.tmp 29) 29 105 _ 32 rfl Try.underlying29 infoRef rfl (by decide) (by decide) (.slice Ar st.refs.length cr) st.refs [(⟨st.code.length, nm, isLock i.f0⟩ : S105)] (some ⟨W.heap.size, 0, none⟩) 1 1 (fun k => O k ∨ W7.heap.size ≤ k) (fun _ => False) rfl rfl HO7.out HR7.out ?_ (fun _ h => h.elim) (fun _ hk => .inr hk) (Below.refl _ _) hB7 ?_ ?_
                  (intro x cs hx; obtain rfl := k105_open hx; exact k105_mkM _ _ _ x)
                  (omega)
                  intro v1 w1 hR1 hB1 hg1 hat1
                  have HN1 := Aside0.mk hR1
                  have HB1 := Aside0.mk hB1
                  have HG1 := Aside0.mk hg1
                  have hb1 := blk_grown HBk7.out hg1 hne
                  have c3' : w1.cell? ⟨g, 3, none⟩ = some (.slice Ar st.refs.length cr) := (blk_cell hb1 3).trans rfl
                  have f3' : w1.frozen? ⟨g, 3, none⟩ = false := blk_frozen hb1 3
                  have hlt1 := blk_lt hb1
                  clear hR1 hB1 hg1 hat1 hb1
                  obtain ⟨A1, cc1, hv1⟩ := Kd.R_slice HN1.out
                  subst hv1))
  all_goals go_ways
  all_goals (
    have hp8 := GPost.pre hBW HB7.out (gput_refs HBk7.out hBg hB7 (fun k hk => Nat.lt_of_lt_of_le (HO.out k hk) HB7.out.size) (Kd.R_below HR1.out HB7.out) (Kd.R_below HR2.out HB7.out) (Kd.R_below HR3.out HB7.out) (Kd.R_below HR4.out HB7.out) HG1.out HB1.out HN1.out)
    rw [show (st.refs ++ [(⟨st.code.length, nm, isLock i.f0⟩ : S105)]).length = st.refs.length + 1 from by simp] at hp8
    have hb8 := gpost_blk hp8 H4.out (by omega) HO0.out
    obtain ⟨O8, hG8, hO8, hk8⟩ := hp8
    clear HR7 HO7 HG7 HB1 HN1 HG1 c1 c3 f3 c3' f3' d1 d3 e3
    generalize w1.setCell ⟨g, 3, none⟩ (.slice A1 (st.refs.length + 1) cc1) = W8 at *
    obtain ⟨i0, i1, i2, i3, i4⟩ := blk5 hb8
    have hl8 := blk_lt hb8
    have HG8 := Aside0.mk hG8; have HO8 := Aside0.mk hO8; have HK8 := Aside0.mk hk8
    clear hb8 hG8 hO8 hk8
    go_wp2_with (first
      | (go_at_call 29
         refine (emit1_any B g O8 E { st with refs := st.refs ++ [⟨st.code.length, nm, isLock i.f0⟩] } _ 53 i.f0 i.f1 i.f2 i.f3 i.f4 _ (Gen.below HG8.out ?_) ?_ hsz).mono ?_
         (exact below_alloc (Below.refl _ _) _)
         (exact blk_new _ _)
         rintro e w9 ⟨rfl, hq9⟩
         have hq := Aside0.mk hq9; clear hq9))
    go_end0
    refine ⟨rfl, ?_⟩
    exact GPost.pre HBB.out HBw.out (GPost.trans HK8.out HO8.out (GPost.pre (Nat.le_trans HBB.out (Nat.le_trans HBw.out.size HK8.out.1.1)) (below_alloc (Below.refl _ _) _) hq.out)))
theorem one_patch {W : World} {b t : Nat} {i : Int × Int} (h : W.heap[b]? = some (.cells #[.int .i64 i.1, .int .i64 i.2] t (0, 0))) : Kd.C kTwo W (some ⟨b, 0, none⟩) 1 [i] := by
  refine ⟨rfl, by omega, fun _ => ⟨⟨b, 0, none⟩, rfl, fun j p hj => ?_⟩⟩
  match j, hj with
  | 0, hj =>
    have hp : i = p := by simpa using hj
    subst hp
    refine ⟨[.int .i64 i.1, .int .i64 i.2], rfl, kTwo_mk W i, fun q u hu => ?_⟩
    have ha : (⟨b, 0, none⟩ : Addr).add (0 * kTwo.sz + q) = ⟨b, q, none⟩ := by rw [Nat.zero_mul, Nat.zero_add]; exact add_plain b q
    rw [ha, blk_cell h q]
    simpa using hu
  | j + 1, hj => simp at hj
end Go.Proofs.Ytadaopfcgpfiiaa
namespace Go.Proofs.Ytadaopfcgpfiiaa
open Go.RowKit Go.Proofs.YtadaopfcgpfiiaaW.PrintWords Go.Proofs.YtadaopfcgpfiiaaW.PrintLast Go.Proofs.YtadaopfcgpfiiaaW.PrintMore PCg
set_option linter.unusedVariables false
set_option linter.unusedSimpArgs false
theorem emit_emit (st : GSt) (a b : List S53) : (st.emit a).emit b = st.emit (a ++ b) := by simp [GSt.emit]
theorem emit_nil (st : GSt) : st.emit [] = st := by simp [GSt.emit]
/-- the boxes of binary: the generator's pointer, the function that emits, the register of the result; the generator with them -/
def BinW (B g : Nat) (O : Nat → Prop) (E : GEnv) (b1 bf bd : Nat) (d : Int) (w0 : World) (st : GSt) (w : World) : Prop :=
  GPost B g O E w0 st w ∧ w.heap[b1]? = some (.cells #[.pointer (some ⟨g, 0, none⟩)] 86 (0, 0)) ∧ w.heap[bf]? = some (.cells #[.func (.func 114) #[] #[.pointer (some ⟨b1, 0, none⟩)]] 195 (0, 0)) ∧ w.heap[bd]? = some (.cells #[.int .i64 d] 3 (0, 0)) ∧
    (b1 ≠ g ∧ ¬ O b1 ∧ b1 < w0.heap.size) ∧ (bf ≠ g ∧ ¬ O bf ∧ bf < w0.heap.size) ∧ (bd ≠ g ∧ ¬ O bd ∧ bd < w0.heap.size)
theorem BinW.step {B g : Nat} {O : Nat → Prop} {E : GEnv} {b1 bf bd : Nat} {d : Int} {w0 w w1 : World} {st st1 : GSt} (h : BinW B g O E b1 bf bd d w0 st w) {O1 : Nat → Prop} (hO1 : ∀ k, O1 k → O k ∨ w0.heap.size ≤ k) (hk : GKept B g O w0 w) (h1 : GPost B g O1 E w st1 w1) : BinW B g O E b1 bf bd d w0 st1 w1 := by
  obtain ⟨_, q1, qf, qd, n1, nf, nd⟩ := h
  have hn : ∀ b, (b ≠ g ∧ ¬ O b ∧ b < w0.heap.size) → ¬ O1 b := fun b hb ho => by
    rcases hO1 b ho with h' | h'
    · exact hb.2.1 h'
    · omega
  exact ⟨GPost.trans hk hO1 h1, gpost_blk h1 q1 n1.1 (hn _ n1), gpost_blk h1 qf nf.1 (hn _ nf), gpost_blk h1 qd nd.1 (hn _ nd), n1, nf, nd⟩
theorem BinW.cells {B g : Nat} {O : Nat → Prop} {E : GEnv} {b1 bf bd : Nat} {d : Int} {w0 w : World} {st : GSt} (h : BinW B g O E b1 bf bd d w0 st w) :
    w.cell? ⟨bf, 0, none⟩ = some (.func (.func 114) #[] #[.pointer (some ⟨b1, 0, none⟩)]) ∧ w.cell? ⟨bd, 0, none⟩ = some (.int .i64 d) := ⟨blk1 h.2.2.1, blk1 h.2.2.2.1⟩
set_option maxRecDepth 100000 in
set_option maxHeartbeats 1000000 in
theorem binary1_any (B g : Nat) (O : Nat → Prop) (E : GEnv) (b1 bf bd : Nat) (d : Int) (w0 : World) (st : GSt) (op a b c : Int) (w : World)
    (hW : BinW B g O E b1 bf bd d w0 st w) (hsz : st.code.length + 1 ≤ 1000000) :
    Calls Try.prog 114 #[.int .u8 op, .int .i64 a, .int .i64 b, .int .i64 c, .pointer (some ⟨b1, 0, none⟩)] w
      fun e w' => e = .returned (.tuple #[]) ∧ BinW B g O E b1 bf bd d w0 (st.emit [⟨op, a, b, c, 0⟩]) w' := by
  have HW := Aside0.mk hW
  obtain ⟨⟨O1, hG, hO1, hk⟩, h1, -⟩ := hW
  have HG := Aside0.mk hG; have HO1 := Aside0.mk hO1; have HK := Aside0.mk hk
  have hBw : B ≤ w.heap.size := by obtain ⟨_, _, _, _, _, _, h, _⟩ := hG; exact h
  have c1 := blk1 h1
  have hlt1 := blk_lt h1
  clear hG hO1 hk h1
  go_enter Try.func114, Try.ntmps114
  go_wp2_with (first
    | (go_at_call 29
       refine (emit1_any B g O1 E st _ 53 op a b c 0 _ (Gen.below HG.out ?_) ?_ hsz).mono ?_
       (exact below_alloc (Below.refl _ _) _)
       (exact blk_new _ _)
       rintro e w9 ⟨rfl, hq9⟩
       have hq := Aside0.mk hq9; clear hq9))
  go_end0
  exact ⟨rfl, HW.out.step HO1.out HK.out (GPost.pre hBw (below_alloc (Below.refl _ _) _) hq.out)⟩
set_option maxRecDepth 100000 in
set_option maxHeartbeats 1000000 in
theorem binary2_any (B g : Nat) (O : Nat → Prop) (E : GEnv) (b1 bf bd : Nat) (d : Int) (w0 : World) (st : GSt) (a : Int) (w : World)
    (hW : BinW B g O E b1 bf bd d w0 st w) (hsz : st.code.length + 1 ≤ 1000000) :
    Calls Try.prog 115 #[.int .i64 a, .pointer (some ⟨bf, 0, none⟩), .pointer (some ⟨bd, 0, none⟩)] w
      fun e w' => e = .returned (.tuple #[]) ∧ BinW B g O E b1 bf bd d w0 (st.emit [⟨12, d, a, 0, 0⟩]) w' := by
  have HW := Aside0.mk hW
  obtain ⟨cf, cd⟩ := hW.cells
  have hltf := blk_lt hW.2.2.1
  have hltd := blk_lt hW.2.2.2.1
  clear hW
  go_enter Try.func115, Try.ntmps115
  go_wp2_with (first
    | (go_at_call 114
       refine (binary1_any B g O E b1 bf bd d w0 st 12 d a 0 _ HW.out hsz).mono ?_
       rintro e w9 ⟨rfl, hq9⟩
       have hq := Aside0.mk hq9; clear hq9))
  go_end0
  exact ⟨rfl, hq.out⟩
/-- the code of a binary operator -/
def binCode (op d x y : Int) : List S53 :=
  if op = 16 then [⟨12, d, x, y, 0⟩]
  else if op = 17 then [⟨12, 1, x, y, 0⟩, ⟨12, d, 1, 0, 0⟩]
  else if op = 18 then [⟨13, d, x, y, 0⟩]
  else if op = 20 then [⟨13, d, y, x, 0⟩]
  else if op = 19 then [⟨13, 1, y, x, 0⟩, ⟨12, d, 1, 0, 0⟩]
  else if op = 21 then [⟨13, 1, x, y, 0⟩, ⟨12, d, 1, 0, 0⟩]
  else if op = 22 then [⟨12, 1, x, 0, 0⟩, ⟨12, 15, y, 0, 0⟩, ⟨8, 1, 1, 15, 0⟩, ⟨12, d, 1, 0, 0⟩]
  else if op = 23 then [⟨8, 1, x, y, 0⟩, ⟨12, 1, 1, 0, 0⟩, ⟨12, d, 1, 0, 0⟩]
  else [⟨op - 4, d, x, y, 0⟩]
theorem binCode_len (op d x y : Int) : (binCode op d x y).length ≤ 4 := by unfold binCode; (repeat' split) <;> simp
theorem gpost_code {B g : Nat} {O : Nat → Prop} {E : GEnv} {w w1 : World} {st st' : GSt} (h : GPost B g O E w st' w1) (e : st = st') : GPost B g O E w st w1 := e ▸ h
end Go.Proofs.Ytadaopfcgpfiiaa
namespace Go.Proofs.Ytadaopfcgpfiiaa
open Go.RowKit Go.Proofs.YtadaopfcgpfiiaaW.PrintWords Go.Proofs.YtadaopfcgpfiiaaW.PrintLast Go.Proofs.YtadaopfcgpfiiaaW.PrintMore PCg
set_option linter.unusedVariables false
set_option linter.unusedSimpArgs false
/-- block mb of w is the map of addresses: at a name it gives m -/
def GMap (w : World) (mb : Nat) (N : Nat) (m : ByteArray → Int) : Prop :=
  ∃ D : DataW Unit, w.ownsMap Try.prog 9 (plainElem Try.prog 3) mb N D ∧ Maps.IsMap D ∧ ∀ s : ByteArray, s.size ≤ maxLen → D.atKey (.string s.data.toList) (.lit (.int .i64 0)) = .lit (.int .i64 (m s))
theorem GMap.kept {w w1 : World} {mb N : Nat} {m : ByteArray → Int} {S : Nat → Prop} (h : GMap w mb N m) (hk : Kept w w1 S) (hn : ¬ S mb) : GMap w1 mb N m := by
  obtain ⟨D, ⟨es, cl, hb, F, hs, hD⟩, hm, hl⟩ := h
  exact ⟨D, ⟨es, cl, blk_kept hb hk hn, F, hs, hD⟩, hm, hl⟩
theorem GMap.below {w w1 : World} {mb N : Nat} {m : ByteArray → Int} (h : GMap w mb N m) (hb : Below w.heap.size w w1) : GMap w1 mb N m := h.kept (Kept.of_below hb (fun _ => False)) (fun h => h)
theorem GMap.lt {w : World} {mb N : Nat} {m : ByteArray → Int} (h : GMap w mb N m) : mb < w.heap.size := by
  obtain ⟨D, h, _⟩ := h
  exact h.lt
theorem GMap.post {B g : Nat} {O : Nat → Prop} {E : GEnv} {w w1 : World} {st : GSt} {mb N : Nat} {m : ByteArray → Int} (h : GMap w mb N m) (k : GPost B g O E w st w1) (hg : mb ≠ g) (hO : ¬ O mb) : GMap w1 mb N m := by
  obtain ⟨O2, _, _, hk⟩ := k
  exact h.kept hk.1 (fun h => h.elim hg hO)
theorem zeroINT (w : World) : (zeroValue 3).run Try.prog w = .ok (.int .i64 0) w := by kernel_rfl
theorem GMap.look {w : World} {mb N : Nat} {m : ByteArray → Int} (h : GMap w mb N m) {s : ByteArray} (hs : s.size ≤ maxLen) : (Instr.lookup 87 (.map (some mb)) (.string s) false).run Try.prog w = .ok (.int .i64 (m s)) w := by
  obtain ⟨D, h, _, hl⟩ := h
  obtain ⟨c, hr, hat, _⟩ := h.lookup_int (Maps.string_keyed Try.underlying9) Try.underlying87 Try.underlying3 (zeroINT w) (WideMaps.keyOf_string_mk Try.underlying9 hs)
  rw [hl s hs] at hat
  have : m s = c := by simpa using hat
  rw [this]
  exact hr
theorem gmap_made (w : World) : GMap (w.alloc (.map #[] 0)) w.heap.size 0 (fun _ => 0) :=
  ⟨.map [], World.ownsMap_made w _ _ _, Maps.isMap_empty, fun s _ => rfl⟩
section
variable {B g : Nat} {O : Nat → Prop} {E : GEnv} {st : GSt} {w2 W w : World}
theorem GPost.base (h : GPost B g O E w2 st W) : B ≤ W.heap.size := by
  obtain ⟨O2, ⟨_, _, _, _, _, _, hw, _⟩, _⟩ := h
  exact hw
/-- the methods, behind others -/
theorem emit_post (h : GPost B g O E w2 st W) (hk : Below W.heap.size W w) (A : Option Addr) (c : Nat) (l : List S53) (hr : Kd.C k53 w A l.length l) (hcp : l.length ≤ c) (hsz : st.code.length + l.length ≤ 1000000) :
    Calls Try.prog 29 #[.pointer (some ⟨g, 0, none⟩), .slice A l.length c] w fun e w' => e = .returned (.tuple #[]) ∧ GPost B g O E w2 (st.emit l) w' := by
  have hB := h.base
  obtain ⟨O1, hG, hO, hk1⟩ := h
  exact (emit_any B g O1 E st A c l w (hG.below hk) hr hcp hsz).mono (fun e w' ⟨r, q⟩ => ⟨r, GPost.trans hk1 hO (GPost.pre hB hk q)⟩)
theorem emit1_post (h : GPost B g O E w2 st W) (hk : Below W.heap.size W w) (b t : Nat) (op a bb cc imm : Int) (hb : w.heap[b]? = some (.cells #[.int .u8 op, .int .i64 a, .int .i64 bb, .int .i64 cc, .int .i64 imm] t (0, 0))) (hsz : st.code.length + 1 ≤ 1000000) :
    Calls Try.prog 29 #[.pointer (some ⟨g, 0, none⟩), .slice (some ⟨b, 0, none⟩) 1 1] w fun e w' => e = .returned (.tuple #[]) ∧ GPost B g O E w2 (st.emit [⟨op, a, bb, cc, imm⟩]) w' :=
  emit_post h hk _ 1 [⟨op, a, bb, cc, imm⟩] (one_instr hb) (Nat.le_refl _) hsz
theorem shared_post (h : GPost B g O E w2 st W) (hk : Below W.heap.size W w) (op a b c d : Int) (nm : ByteArray) (hsz : st.code.length + 1 ≤ 1000000) (hrz : st.refs.length + 1 ≤ 1000000) :
    Calls Try.prog 76 #[.pointer (some ⟨g, 0, none⟩), .agg #[.int .u8 op, .int .i64 a, .int .i64 b, .int .i64 c, .int .i64 d], .string nm] w
      fun e w' => e = .returned (.tuple #[]) ∧ GPost B g O E w2 { st with code := st.code ++ [⟨op, a, b, c, d⟩], refs := st.refs ++ [⟨st.code.length, nm, isLock op⟩] } w' := by
  have hB := h.base
  obtain ⟨O1, hG, hO, hk1⟩ := h
  exact (shared_any B g O1 E st ⟨op, a, b, c, d⟩ nm w (hG.below hk) hsz hrz).mono (fun e w' ⟨r, q⟩ => ⟨r, GPost.trans hk1 hO (GPost.pre hB hk q)⟩)
theorem jump_post (h : GPost B g O E w2 st W) (hk : Below W.heap.size W w) (op a b c d : Int) (blk : Int) (hsz : st.code.length + 1 ≤ 1000000) (hrz : st.patches.length + 1 ≤ 1000000) :
    Calls Try.prog 50 #[.pointer (some ⟨g, 0, none⟩), .agg #[.int .u8 op, .int .i64 a, .int .i64 b, .int .i64 c, .int .i64 d], .int .i64 blk] w
      fun e w' => e = .returned (.tuple #[]) ∧ GPost B g O E w2 { st with code := st.code ++ [⟨op, a, b, c, d⟩], patches := st.patches ++ [((st.code.length : Int), blk)] } w' := by
  have hB := h.base
  obtain ⟨O1, hG, hO, hk1⟩ := h
  exact (jump_any B g O1 E st ⟨op, a, b, c, d⟩ blk w (hG.below hk) hsz hrz).mono (fun e w' ⟨r, q⟩ => ⟨r, GPost.trans hk1 hO (GPost.pre hB hk q)⟩)
theorem binary_post (h : GPost B g O E w2 st W) (hk : Below W.heap.size W w) (op d x y : Int) (o0 : 6 ≤ op) (o1 : op ≤ 23) (hsz : st.code.length + 4 ≤ 1000000) :
    Calls Try.prog 98 #[.pointer (some ⟨g, 0, none⟩), .int .u8 op, .int .i64 d, .int .i64 x, .int .i64 y] w
      fun e w' => e = .returned (.tuple #[]) ∧ GPost B g O E w2 (st.emit (binCode op d x y)) w' := by
  have hB := h.base
  obtain ⟨O1, hG, hO, hk1⟩ := h
  exact (binary_any B g O1 E st op d x y w (hG.below hk) o0 o1 hsz).mono (fun e w' ⟨r, q⟩ => ⟨r, GPost.trans hk1 hO (GPost.pre hB hk q)⟩)
theorem define2_post (h : GPost B g O E w2 st W) (hk : Below W.heap.size W w) (b2 b6 : Nat) (p : Int × Int)
    (h2 : w2.heap[b2]? = some (.cells #[.pointer (some ⟨g, 0, none⟩)] 86 (0, 0))) (h6 : w2.heap[b6]? = some (.cells #[.int .i64 p.1, .int .i64 p.2] 131 (0, 0)))
    (n2 : b2 ≠ g) (o2 : ¬ O b2) (n6 : b6 ≠ g) (o6 : ¬ O b6) (s0 : 0 ≤ E.spill) (s1 : E.spill ≤ 1000000) (q0 : 0 ≤ p.2) (p1 : p.2 ≤ 1000000) (hsz : st.code.length + 1 ≤ 1000000) :
    Calls Try.prog 113 #[.pointer (some ⟨b2, 0, none⟩), .pointer (some ⟨b6, 0, none⟩)] w
      fun e w' => e = .returned (.tuple #[]) ∧ GPost B g O E w2 (st.emit [⟨19, 14, 0, 0, E.spill + p.2⟩]) w' := by
  have hB := h.base
  have hl2 := blk_lt h2
  have hl6 := blk_lt h6
  have k2 := blk_below (gpost_blk h h2 n2 o2) hk
  have k6 := blk_below (gpost_blk h h6 n6 o6) hk
  obtain ⟨O1, hG, hO, hk1⟩ := h
  have hn : ∀ b, ¬ O b → b < w2.heap.size → ¬ O1 b := fun b h1 h2 h3 => by
    rcases hO b h3 with h | h
    · exact h1 h
    · omega
  exact (define2_any B g b2 b6 O1 E st p w (hG.below hk) k2 k6 n2 (hn _ o2 hl2) n6 (hn _ o6 hl6) s0 s1 q0 p1 hsz).mono (fun e w' ⟨r, q⟩ => ⟨r, GPost.trans hk1 hO (GPost.pre hB hk q)⟩)
end
theorem use_post {w0 : World} {g : Nat} {O : Nat → Prop} {E : GEnv} {st : GSt} {w2 W w : World} (h : GPost w0.heap.size g O E w2 st W) (hk : Below W.heap.size W w) (hB2 : Below w0.heap.size w0 w2)
    (Ap : Option Addr) (cp : Nat) (places : List (Int × Int)) (v into : Int) (hP : Kd.C kTwo w0 Ap places.length places) (hpv : E.pv = .slice Ap places.length cp)
    (v0 : 0 ≤ v) (v1 : v < places.length) (s0 : 0 ≤ E.spill) (s1 : E.spill ≤ 1000000) (p1 : (rdTwo places v).2 ≤ 1000000) (hsz : st.code.length + 1 ≤ 1000000) :
    Calls Try.prog 51 #[.pointer (some ⟨g, 0, none⟩), .int .i64 v, .int .i64 into] w
      fun e w' => e = .returned (.int .i64 (useReg (rdTwo places v) into)) ∧ GPost w0.heap.size g O E w2 (st.emit (useCode E.spill (rdTwo places v) into)) w' := by
  have hB := h.base
  have hb := (hB2.trans (gpost_below h)).trans (hk.mono hB)
  obtain ⟨O1, hG, hO, hk1⟩ := h
  exact (use_any w0 g O1 E st Ap cp places v into w (hG.below hk) hb hP hpv v0 v1 s0 s1 p1 hsz).mono (fun e w' ⟨r, q⟩ => ⟨r, GPost.trans hk1 hO (GPost.pre hB hk q)⟩)
end Go.Proofs.Ytadaopfcgpfiiaa
namespace Go.Proofs.Ytadaopfcgpfiiaa
open Go.RowKit Go.Proofs.YtadaopfcgpfiiaaW.PrintWords Go.Proofs.YtadaopfcgpfiiaaW.PrintLast Go.Proofs.YtadaopfcgpfiiaaW.PrintMore PCg
set_option linter.unusedVariables false
set_option linter.unusedSimpArgs false
def GSt.refer (st : GSt) (x : S53) (nm : ByteArray) : GSt := { st with code := st.code ++ [x], refs := st.refs ++ [⟨st.code.length, nm, isLock x.f0⟩] }
def GSt.leap (st : GSt) (x : S53) (blk : Int) : GSt := { st with code := st.code ++ [x], patches := st.patches ++ [((st.code.length : Int), blk)] }
/-- the instructions that set a register to a number -/
def constCode (d n : Int) : List S53 :=
  if d < 1 then [] else if d ≥ 16 then [] else if n ≥ -131072 ∧ n ≤ 131071 then [⟨14, d, 0, 0, wrap64 n⟩] else [⟨14, d, 0, 0, wrap64 (n / 16384)⟩, ⟨16, d, d, 0, 14⟩, ⟨17, d, d, 0, wrap64 (Go.bits .and .i32 n 16383)⟩]
theorem constCode_len (d n : Int) : (constCode d n).length ≤ 3 := by unfold constCode; (repeat' split) <;> simp
theorem const_any (d n : Int) (w : World) :
    Calls Try.prog 22 #[.int .i64 d, .int .i32 n] w fun e w' => ∃ A c, e = .returned (.slice A (constCode d n).length c) ∧ (constCode d n).length ≤ c ∧ Kd.C k53 w' A (constCode d n).length (constCode d n) ∧ Below w.heap.size w w' := by
  have h : codegen_Constant.f 5 d n = some (constCode d n) := by
    unfold codegen_Constant.f constCode codegen_Constant.j0
    (repeat' split) <;> simp_all <;> omega
  refine (codegen_Constant.calls 5 d n _ w h).mono ?_
  rintro e w' ⟨v, rfl, hR, hb⟩
  obtain ⟨A, c, rfl, hl, hC⟩ := Kd.R_reads hR
  exact ⟨A, c, rfl, hl, hC, hb⟩
/-- the code of an instruction that defines a register, ahead of the store of a spilled one -/
def genDef1 (sp : Int) (pl : List (Int × Int)) (m : ByteArray → Int) (st : GSt) (i : S51) : GSt :=
  if i.f0 = 1 then st.emit (constCode (useReg (rdTwo pl i.f1) 14) (wrap32 i.f4))
  else if i.f0 = 2 then st.emit (useCode sp (rdTwo pl i.f2) 14 ++ [⟨15, useReg (rdTwo pl i.f1) 14, useReg (rdTwo pl i.f2) 14, 0, 0⟩])
  else if i.f0 = 3 then st.emit (useCode sp (rdTwo pl i.f2) 14 ++ useCode sp (rdTwo pl i.f3) 15 ++ binCode i.f4 (useReg (rdTwo pl i.f1) 14) (useReg (rdTwo pl i.f2) 14) (useReg (rdTwo pl i.f3) 15))
  else if i.f0 = 4 then st.emit (useCode sp (rdTwo pl i.f2) 14 ++ [⟨18, useReg (rdTwo pl i.f1) 14, useReg (rdTwo pl i.f2) 14, 0, m i.f5⟩])
  else if i.f0 = 6 then (st.emit (useCode sp (rdTwo pl i.f2) 14)).refer ⟨20, useReg (rdTwo pl i.f1) 14, useReg (rdTwo pl i.f2) 14, 0, 0⟩ i.f5
  else if i.f0 = 9 then st.emit [⟨26, useReg (rdTwo pl i.f1) 14, 0, 0, i.f4⟩]
  else if i.f0 = 15 then st.emit [⟨15, useReg (rdTwo pl i.f1) 14, 10 + i.f4, 0, 0⟩]
  else st
def genDef (sp : Int) (pl : List (Int × Int)) (m : ByteArray → Int) (st : GSt) (i : S51) : GSt := (genDef1 sp pl m st i).emit (storeCode sp (rdTwo pl i.f1))
def regIn (n : Nat) (v : Int) : Prop := 0 ≤ v ∧ v < n
def defPre (n : Nat) (i : S51) : Prop :=
  i.f0 = 1 ∨ (i.f0 = 2 ∧ regIn n i.f2) ∨ (i.f0 = 3 ∧ regIn n i.f2 ∧ regIn n i.f3 ∧ 6 ≤ i.f4 ∧ i.f4 ≤ 23) ∨ (i.f0 = 4 ∧ regIn n i.f2) ∨ (i.f0 = 6 ∧ regIn n i.f2) ∨ i.f0 = 9 ∨ (i.f0 = 15 ∧ 0 ≤ i.f4 ∧ i.f4 ≤ 1000000)
theorem callFunc_define1 (args : Array Value) (W : World) : (callFunc 112 args).run Try.prog W = .ok (.enter 112 args) W := by kernel_rfl
theorem callFunc_define2 (args : Array Value) (W : World) : (callFunc 113 args).run Try.prog W = .ok (.enter 113 args) W := by kernel_rfl
end Go.Proofs.Ytadaopfcgpfiiaa
namespace Go.Proofs.Ytadaopfcgpfiiaa
open Go.RowKit Go.Proofs.YtadaopfcgpfiiaaW.PrintWords Go.Proofs.YtadaopfcgpfiiaaW.PrintLast Go.Proofs.YtadaopfcgpfiiaaW.PrintMore PCg
set_option linter.unusedVariables false
set_option linter.unusedSimpArgs false
/-- the code of an instruction -/
def genIns (sp : Int) (pl : List (Int × Int)) (m : ByteArray → Int) (st : GSt) (i : S51) : GSt :=
  if i.f0 = 5 then st.emit (useCode sp (rdTwo pl i.f2) 14 ++ useCode sp (rdTwo pl i.f3) 15 ++ [⟨19, useReg (rdTwo pl i.f3) 15, useReg (rdTwo pl i.f2) 14, 0, m i.f5⟩])
  else if i.f0 = 7 then (st.emit (useCode sp (rdTwo pl i.f2) 14 ++ useCode sp (rdTwo pl i.f3) 15)).refer ⟨21, useReg (rdTwo pl i.f3) 15, useReg (rdTwo pl i.f2) 14, 0, 0⟩ i.f5
  else if i.f0 = 8 then st.emit (useCode sp (rdTwo pl i.f2) 14 ++ [⟨25, useReg (rdTwo pl i.f2) 14, 0, 0, i.f4⟩])
  else if i.f0 = 10 then st.emit (useCode sp (rdTwo pl i.f2) 14 ++ [⟨27, useReg (rdTwo pl i.f2) 14, 0, 0, i.f4⟩])
  else if i.f0 = 11 then st.refer ⟨28, 0, 0, 0, 0⟩ i.f5
  else if i.f0 = 12 then st.refer ⟨29, 0, 0, 0, 0⟩ i.f5
  else if i.f0 = 13 then st.emit [⟨14, 10 + i.f4, 0, 0, 0⟩]
  else if i.f0 = 14 then st.emit [⟨15, 10 + i.f4, 10 + i.f4, 0, 1⟩]
  else if i.f0 = 16 then st.emit [⟨25, 10 + i.f2, 0, 0, i.f4⟩]
  else genDef sp pl m st i
def insPre (n : Nat) (i : S51) : Prop :=
  (i.f0 = 5 ∧ regIn n i.f2 ∧ regIn n i.f3) ∨ (i.f0 = 7 ∧ regIn n i.f2 ∧ regIn n i.f3) ∨ (i.f0 = 8 ∧ regIn n i.f2) ∨ (i.f0 = 10 ∧ regIn n i.f2) ∨ i.f0 = 11 ∨ i.f0 = 12 ∨ (i.f0 = 13 ∧ 0 ≤ i.f4 ∧ i.f4 ≤ 1000000) ∨ (i.f0 = 14 ∧ 0 ≤ i.f4 ∧ i.f4 ≤ 1000000) ∨ (i.f0 = 16 ∧ 0 ≤ i.f2 ∧ i.f2 ≤ 1000000) ∨ (defPre n i ∧ regIn n i.f1)
end Go.Proofs.Ytadaopfcgpfiiaa
namespace Go.Proofs.Ytadaopfcgpfiiaa
open Go.RowKit Go.Proofs.YtadaopfcgpfiiaaW.PrintWords Go.Proofs.YtadaopfcgpfiiaaW.PrintLast Go.Proofs.YtadaopfcgpfiiaaW.PrintMore PCg
set_option linter.unusedVariables false
set_option linter.unusedSimpArgs false
/-- an operand that is used is a register, one that is not used is 0 -/
def regOk (u : Bool) (r n : Int) : Bool := if u then decide (0 ≤ r) && decide (r < n) else r == 0
set_option maxHeartbeats 400000 in
theorem register_any (u : Bool) (r n : Int) (w : World) :
    Calls Try.prog 57 #[.bool u, .int .i64 r, .int .i64 n] w fun e w' => e = .returned (.bool (regOk u r n)) ∧ w = w' := by
  cases u
  · go_enter Try.func57, Try.ntmps57
    go_wp2
    go_ret
    exact ⟨retb (by simp [regOk]), rfl⟩
  · go_enter Try.func57, Try.ntmps57
    go_wp2
    all_goals go_ret
    all_goals (refine ⟨retb ?_, rfl⟩)
    · have : 0 ≤ r := by assumption
      simp [regOk, this]
    · have : r < 0 := by assumption
      simp [regOk]; omega
/-- what an operation's operands are -/
structure Shp where
  d : Bool
  x : Bool
  y : Bool
  lo : Int
  hi : Int
  sym : Int
  ok : Bool
def shp (op : Int) : Shp :=
  if op = 1 then ⟨true, false, false, -2147483648, 2147483647, 0, true⟩ else if op = 2 then ⟨true, true, false, 0, 0, 0, true⟩ else
  if op = 3 then ⟨true, true, true, 6, 23, 0, true⟩ else if op = 4 then ⟨true, true, false, 0, 0, 1, true⟩ else
  if op = 5 then ⟨false, true, true, 0, 0, 1, true⟩ else if op = 6 then ⟨true, true, false, 0, 0, 2, true⟩ else
  if op = 7 then ⟨false, true, true, 0, 0, 2, true⟩ else if op = 8 then ⟨false, true, false, 1, 131071, 0, true⟩ else
  if op = 9 then ⟨true, false, false, 0, 7, 0, true⟩ else if op = 10 then ⟨false, true, false, 0, 7, 0, true⟩ else
  if op = 11 ∨ op = 12 then ⟨false, false, false, 0, 0, 2, true⟩ else if op = 13 ∨ op = 14 then ⟨false, false, false, 0, 3, 0, true⟩ else
  if op = 15 then ⟨true, false, false, 0, 3, 0, true⟩ else if op = 16 then ⟨false, false, false, 1, 131071, 0, true⟩ else ⟨false, false, false, 0, 0, 0, false⟩
theorem shapeOf_f (op : Int) : ir_shapeOf.f 3 op = some ((shp op).d, (shp op).x, (shp op).y, (shp op).lo, (shp op).hi, (shp op).sym, (shp op).ok) := by
  by_cases h : 1 ≤ op ∧ op ≤ 16
  · have h16 : op = 1 ∨ op = 2 ∨ op = 3 ∨ op = 4 ∨ op = 5 ∨ op = 6 ∨ op = 7 ∨ op = 8 ∨ op = 9 ∨ op = 10 ∨ op = 11 ∨ op = 12 ∨ op = 13 ∨ op = 14 ∨ op = 15 ∨ op = 16 := by omega
    rcases h16 with rfl | rfl | rfl | rfl | rfl | rfl | rfl | rfl | rfl | rfl | rfl | rfl | rfl | rfl | rfl | rfl <;> simp [ir_shapeOf.f, ir_shapeOf.j0, ir_shapeOf.j1, shp]
  · simp [ir_shapeOf.f, ir_shapeOf.j0, ir_shapeOf.j1, shp, show op ≠ 1 from by omega, show op ≠ 2 from by omega, show op ≠ 3 from by omega, show op ≠ 4 from by omega, show op ≠ 5 from by omega, show op ≠ 6 from by omega, show op ≠ 7 from by omega, show op ≠ 8 from by omega, show op ≠ 9 from by omega, show op ≠ 10 from by omega, show op ≠ 11 from by omega, show op ≠ 12 from by omega, show op ≠ 13 from by omega, show op ≠ 14 from by omega, show op ≠ 15 from by omega, show op ≠ 16 from by omega]
theorem shapeOf_any (op : Int) (w : World) :
    Calls Try.prog 56 #[.int .u8 op] w fun e w' => e = .returned (.tuple #[.agg #[.bool (shp op).d, .bool (shp op).x, .bool (shp op).y, .int .i64 (shp op).lo, .int .i64 (shp op).hi, .int .i64 (shp op).sym], .bool (shp op).ok]) ∧ Below w.heap.size w w' :=
  ir_shapeOf.calls 3 op _ _ _ _ _ _ _ w (shapeOf_f op)
/-- a list of arrays has one with a name -/
def hasName (l : List S44) (nm : ByteArray) : Bool := l.any fun a => a.f0.toList == nm.toList
set_option maxHeartbeats 400000 in
theorem has1_any (n nm : ByteArray) (l : Int) (b : Nat) (w : World) (hc : w.cell? ⟨b, 0, none⟩ = some (.string nm)) :
    Calls Try.prog 53 #[.agg #[.string n, .int .i64 l], .pointer (some ⟨b, 0, none⟩)] w fun e w' => e = .returned (.bool (n.toList == nm.toList)) ∧ Below w.heap.size w w' := by
  have hlt := World.block_lt_of_cell? w _ hc
  go_enter Try.func53, Try.ntmps53
  go_wp2
  go_ret
  exact ⟨rfl, (Below.refl _ _).alloc (Nat.le_refl _) _⟩
theorem callFunc_irHas1 (args : Array Value) (W : World) : (callFunc 53 args).run Try.prog W = .ok (.enter 53 args) W := by kernel_rfl
set_option maxHeartbeats 400000 in
theorem has_any (A : Option Addr) (c : Nat) (xs : List S44) (nm : ByteArray) (w : World) (hr : Kd.C k44 w A xs.length xs) (hcp : xs.length ≤ c) (hm : xs.length ≤ 9223372036854775806) :
    Calls Try.prog 31 #[.slice A xs.length c, .string nm] w fun e w' => e = .returned (.bool (hasName xs nm)) ∧ Below w.heap.size w w' := by
  have hb0 : Below w.heap.size w (w.alloc (.cells #[.string nm] 9)) := (Below.refl _ _).alloc (Nat.le_refl _) _
  have HC := Aside0.mk (containsFuncArr_any A c xs (fun a => a.f0.toList == nm.toList) 53 #[.pointer (some ⟨w.heap.size, 0, none⟩)] (w.alloc (.cells #[.string nm] 9))
    (Kd.C_below hr hb0) hcp hm callFunc_irHas1 (fun x W _ hW => has1_any x.f0 nm x.f1 w.heap.size W ((hW.cell (p := ⟨w.heap.size, 0, none⟩) (by simp)).trans (by simp))))
  have HB0 := Aside0.mk hb0
  clear hr hb0
  go_enter Try.func31, Try.ntmps31
  go_wp2_with fail
  refine HC.out.mono ?_
  rintro e w1 ⟨rfl, hb1⟩
  have HB1 := Aside0.mk (below_step HB0.out hb1); clear hb1
  go_wp2
  go_ret
  exact ⟨rfl, HB1.out⟩
theorem has_len (A : Option Addr) (c n : Nat) (xs : List S44) (nm : ByteArray) (w : World) (hn : xs.length = n) (hr : Kd.C k44 w A xs.length xs) (hcp : xs.length ≤ c) (hm : xs.length ≤ 9223372036854775806) :
    Calls Try.prog 31 #[.slice A n c, .string nm] w fun e w' => e = .returned (.bool (hasName xs nm)) ∧ Below w.heap.size w w' := by
  subst hn; exact has_any A c xs nm w hr hcp hm
end Go.Proofs.Ytadaopfcgpfiiaa
namespace Go.Proofs.Ytadaopfcgpfiiaa
open Go.RowKit Go.Proofs.YtadaopfcgpfiiaaW.PrintWords Go.Proofs.YtadaopfcgpfiiaaW.PrintLast Go.Proofs.YtadaopfcgpfiiaaW.PrintMore PCg
set_option linter.unusedVariables false
set_option linter.unusedSimpArgs false
def symOk (arrs shared : List S44) (sym : Int) (nm : ByteArray) : Bool := if sym = 1 then hasName arrs nm else if sym = 2 then hasName shared nm else nm.toList.isEmpty
def xOk (regs : Int) (i : S51) : Bool := if i.f0 = 16 then decide (0 ≤ i.f2) && decide (i.f2 < 4) else regOk (shp i.f0).x i.f2 regs
/-- an instruction is valid in a function with so many registers, these arrays and these shared objects -/
def insOk (regs : Int) (arrs shared : List S44) (i : S51) : Bool :=
  (shp i.f0).ok && regOk (shp i.f0).d i.f1 regs && regOk (shp i.f0).y i.f3 regs && decide ((shp i.f0).lo ≤ i.f4) && decide (i.f4 ≤ (shp i.f0).hi) && xOk regs i && symOk arrs shared (shp i.f0).sym i.f5
theorem insOk_eq (regs : Int) (arrs shared : List S44) (i : S51) (s : Shp) (h : shp i.f0 = s) : insOk regs arrs shared i =
    (s.ok && regOk s.d i.f1 regs && regOk s.y i.f3 regs && decide (s.lo ≤ i.f4) && decide (i.f4 ≤ s.hi) && (if i.f0 = 16 then decide (0 ≤ i.f2) && decide (i.f2 < 4) else regOk s.x i.f2 regs) && symOk arrs shared s.sym i.f5) := by
  subst h; rfl
set_option maxRecDepth 100000 in
set_option maxHeartbeats 1000000 in
theorem valid_any (nm : ByteArray) (regs : Int) (A : Option Addr) (c : Nat) (arrs : List S44) (Bv : Value) (A2 : Option Addr) (c2 : Nat) (shared : List S44) (i : S51) (w : World)
    (hr : Kd.C k44 w A arrs.length arrs) (hcp : arrs.length ≤ c) (hm : arrs.length ≤ 9223372036854775806)
    (hr2 : Kd.C k44 w A2 shared.length shared) (hcp2 : shared.length ≤ c2) (hm2 : shared.length ≤ 9223372036854775806) (hBv : ∃ A3 n3 c3, Bv = .slice A3 n3 c3) :
    Calls Try.prog 35 #[.agg #[.string nm, .int .i64 regs, .slice A arrs.length c, Bv], .slice A2 shared.length c2, .agg #[.int .u8 i.f0, .int .i64 i.f1, .int .i64 i.f2, .int .i64 i.f3, .int .i64 i.f4, .string i.f5]] w
      fun e w' => e = .returned (.bool (insOk regs arrs shared i)) ∧ Below w.heap.size w w' := by
  obtain ⟨A3, n3, c3, rfl⟩ := hBv
  have HR := Aside0.mk hr; clear hr
  have HR2 := Aside0.mk hr2; clear hr2
  have hu := Try.underlying44
  have hu2 := Try.underlying51
  have hu3 := Try.underlying25
  have hu4 := Try.underlying141
  go_enter Try.func35, Try.ntmps35
  go_wp2_with fail
  refine (shapeOf_any _ _).mono ?_
  rintro e w1 ⟨rfl, hb1⟩
  have hz := hb1.size
  simp only [World.size_alloc] at hz
  have hF : w1.heap[w.heap.size]? = some (.cells #[.string nm, .int .i64 regs, .slice A arrs.length c, .slice A3 n3 c3] 25 (0, 0)) := (hb1.block _ (by simp; omega)).trans ((Below.heap_alloc _ _ _ (by simp)).trans (heap_alloc_new w _))
  have hI : w1.heap[w.heap.size + 1]? = some (.cells #[.int .u8 i.f0, .int .i64 i.f1, .int .i64 i.f2, .int .i64 i.f3, .int .i64 i.f4, .string i.f5] 51 (0, 0)) := (hb1.block _ (by simp)).trans (heap_alloc_at _ _ _ (by simp))
  have hz0 : w.heap.size < w1.heap.size := by omega
  have hz1 : w.heap.size + 1 < w1.heap.size := by omega
  obtain ⟨f0, f1, f2, f3⟩ := blk4 hF
  obtain ⟨i0, i1, i2, i3, i4, i5⟩ := blk6 hI
  clear hF hI
  have HB1 : Aside0 (Below w.heap.size w w1) := ⟨Below.trans (((Below.refl _ _).alloc (Nat.le_refl _) _).alloc (by simp) _) (hb1.mono (by simp; omega))⟩
  clear hb1
  have HS := Aside0.mk (insOk_eq regs arrs shared i _ rfl)
  generalize shp i.f0 = s at *
  obtain ⟨sd, sx, sy, slo, shi, ssym, sok⟩ := s
  dsimp only at *
  go_wp2_with (go_at_call 57; refine (register_any _ _ _ _).mono ?_; rintro e w' ⟨rfl, rfl⟩)
  all_goals first
  | (go_ret
     refine ⟨retb ?_, HB1.out.alloc HB1.out.size _⟩
     rw [HS.out]
     simp_all [symOk]
     done)
  | (go_ret
     refine ⟨retb ?_, HB1.out.alloc HB1.out.size _⟩
     rw [HS.out]
     simp [*, symOk]
     omega)
  | (go_ret
     refine ⟨retb ?_, HB1.out.alloc HB1.out.size _⟩
     rw [HS.out]
     simp_all [symOk]
     omega)
  | (have HC := Aside0.mk (HB1.out.alloc HB1.out.size (.cells #[.bool sd, .bool sx, .bool sy, .int .i64 slo, .int .i64 shi, .int .i64 ssym] 141))
     first
     | (with_reducible refine (has_any A c arrs _ _ (Kd.C_below HR.out HC.out) hcp hm).mono ?_)
     | (with_reducible refine (has_any A2 c2 shared _ _ (Kd.C_below HR2.out HC.out) hcp2 hm2).mono ?_)
     rintro e w2 ⟨rfl, hb2⟩
     have HB2 := Aside0.mk (below_step HC.out hb2); clear hb2
     go_wp2
     go_ret
     refine ⟨retb ?_, HB2.out⟩
     rw [HS.out]
     simp_all [symOk]
     done)
theorem callFunc_irValid1 (args : Array Value) (W : World) : (callFunc 34 args).run Try.prog W = .ok (.enter 34 args) W := by kernel_rfl
end Go.Proofs.Ytadaopfcgpfiiaa
namespace Go.Proofs.Ytadaopfcgpfiiaa
open Go.RowKit Go.Proofs.YtadaopfcgpfiiaaW.PrintWords Go.Proofs.YtadaopfcgpfiiaaW.PrintLast Go.Proofs.YtadaopfcgpfiiaaW.PrintMore PCg
set_option linter.unusedVariables false
set_option linter.unusedSimpArgs false
def tgtOk (nb : Int) (t : Int) : Bool := decide (0 ≤ t) && decide (t < nb)
def endOk (regs nb : Int) (kind x tt els : Int) : Bool :=
  if kind = 1 then tgtOk nb tt && x == 0 && els == 0 else
  if kind = 2 then tgtOk nb tt && tgtOk nb els && decide (0 ≤ x) && decide (x < regs) else kind == 3 && x == 0 && tt == 0 && els == 0
end Go.Proofs.Ytadaopfcgpfiiaa
namespace Go.Proofs.Ytadaopfcgpfiiaa
open Go.RowKit Go.Proofs.YtadaopfcgpfiiaaW.PrintWords Go.Proofs.YtadaopfcgpfiiaaW.PrintLast Go.Proofs.YtadaopfcgpfiiaaW.PrintMore PCg
set_option linter.unusedVariables false
set_option linter.unusedSimpArgs false
def allTo (n : Nat) (p : Int → Bool) : Bool := (List.range n).all fun j => p j
theorem allTo_true {n : Nat} {p : Int → Bool} (h : ∀ j : Int, 0 ≤ j → j < n → p j = true) : allTo n p = true := by
  unfold allTo
  rw [List.all_eq_true]
  intro j hj
  have := List.mem_range.1 hj
  exact h j (by omega) (by omega)
theorem allTo_false {n : Nat} {p : Int → Bool} {j : Int} (h0 : 0 ≤ j) (h1 : j < n) (hp : p j = false) : allTo n p = false := by
  unfold allTo
  rw [List.all_eq_false]
  exact ⟨j.toNat, List.mem_range.2 (by omega), by rw [show ((j.toNat : Nat) : Int) = j from by omega, hp]; simp⟩
def arrOkAt (arrs shared : List S44) (j : Int) : Bool :=
  decide (1 ≤ (rd_T44 arrs j).f1) && decide ((rd_T44 arrs j).f1 ≤ 32) && !hasName (arrs.take j.toNat) (rd_T44 arrs j).f0 && !hasName shared (rd_T44 arrs j).f0
def shOkAt (shared : List S44) (j : Int) : Bool := !hasName (shared.take j.toNat) (rd_T44 shared j).f0
def blkOk (regs nb : Int) (arrs shared : List S44) (b : S49) : Bool := endOk regs nb b.f1 b.f2 b.f3 b.f4 && b.f0.all (insOk regs arrs shared)
/-- ir.Valid -/
def irOk (regs : Int) (arrs : List S44) (blks : List S49) (shared : List S44) : Bool :=
  decide (blks.length ≠ 0) && decide (0 ≤ regs) && decide (regs ≤ 10000) && decide (arrs.length ≤ 4) && allTo arrs.length (arrOkAt arrs shared) && allTo shared.length (shOkAt shared) &&
    allTo blks.length (fun j => blkOk regs blks.length arrs shared (rd_T49 blks j))
theorem infoArr_spec : Try.prog.info? 44 = some (Option.get (Try.prog.info? 44) (by kernel_rfl)) := by kernel_rfl
end Go.Proofs.Ytadaopfcgpfiiaa
namespace Go.Proofs.Ytadaopfcgpfiiaa
open Go.RowKit Go.Proofs.YtadaopfcgpfiiaaW.PrintWords Go.Proofs.YtadaopfcgpfiiaaW.PrintLast Go.Proofs.YtadaopfcgpfiiaaW.PrintMore PCg
set_option linter.unusedVariables false
set_option linter.unusedSimpArgs false
/-- the registers that an instruction reads -/
def usesL (i : S51) : List Int := (if (shp i.f0).x then [i.f2] else []) ++ (if (shp i.f0).y then [i.f3] else [])
/-- the register that it writes -/
def defL (i : S51) : List Int := if (shp i.f0).d then [i.f1] else []
theorem uses_f (i : S51) : ir_Uses.f 3 i.f0 i.f1 i.f2 i.f3 i.f4 i.f5 = some (usesL i) := by
  unfold ir_Uses.f usesL
  rw [shapeOf_f]
  cases (shp i.f0).x <;> cases (shp i.f0).y <;> simp
theorem defines_f (i : S51) : ir_Defines.f 3 i.f0 i.f1 i.f2 i.f3 i.f4 i.f5 = some (if (shp i.f0).d then i.f1 else 0, (shp i.f0).d) := by
  unfold ir_Defines.f
  rw [shapeOf_f]
  cases (shp i.f0).d <;> simp
theorem uses_any (i : S51) (w : World) :
    Calls Try.prog 103 #[.agg #[.int .u8 i.f0, .int .i64 i.f1, .int .i64 i.f2, .int .i64 i.f3, .int .i64 i.f4, .string i.f5]] w fun e w' => ∃ v, e = .returned v ∧ Kd.R (Kd.int .i64) 3 w' w.heap.size (fun _ => True) v (usesL i) ∧ Below w.heap.size w w' :=
  ir_Uses.calls 3 _ _ _ _ _ _ _ w (uses_f i)
theorem defines_any (i : S51) (w : World) :
    Calls Try.prog 69 #[.agg #[.int .u8 i.f0, .int .i64 i.f1, .int .i64 i.f2, .int .i64 i.f3, .int .i64 i.f4, .string i.f5]] w fun e w' => e = .returned (.tuple #[.int .i64 (if (shp i.f0).d then i.f1 else 0), .bool (shp i.f0).d]) ∧ Below w.heap.size w w' :=
  ir_Defines.calls 3 _ _ _ _ _ _ _ _ w (defines_f i)
theorem usesL_len (i : S51) : (usesL i).length ≤ 2 := by
  unfold usesL
  cases (shp i.f0).x <;> cases (shp i.f0).y <;> simp
def offReg (regs r : Int) : Bool := decide (r < 0) || decide (regs ≤ r)
set_option maxRecDepth 100000 in
set_option maxHeartbeats 400000 in
theorem lvInstruction1_any (b : Nat) (r regs : Int) (w : World) (hc : w.cell? ⟨b, 0, none⟩ = some (.int .i64 regs)) :
    Calls Try.prog 106 #[.int .i64 r, .pointer (some ⟨b, 0, none⟩)] w fun e w' => e = .returned (.bool (offReg regs r)) ∧ Below w.heap.size w w' := by
  have hlt := World.block_lt_of_cell? w _ hc
  by_cases h : r < 0
  · go_enter Try.func106, Try.ntmps106
    go_wp2
    go_ret
    exact ⟨retb (by simp [offReg]; omega), Below.refl _ _⟩
  · go_enter Try.func106, Try.ntmps106
    go_wp2
    go_ret
    exact ⟨retb (by simp [offReg]; omega), Below.refl _ _⟩
theorem callFunc_lvInstruction1 (args : Array Value) (W : World) : (callFunc 106 args).run Try.prog W = .ok (.enter 106 args) W := by kernel_rfl
/-- the instruction's operation is known, and its registers are in range -/
def insWf (regs : Int) (i : S51) : Prop := 1 ≤ i.f0 ∧ i.f0 ≤ 16 ∧ ∀ r ∈ usesL i ++ defL i, 0 ≤ r ∧ r < regs
end Go.Proofs.Ytadaopfcgpfiiaa
namespace Go.Proofs.Ytadaopfcgpfiiaa
open Go.RowKit Go.Proofs.YtadaopfcgpfiiaaW.PrintWords Go.Proofs.YtadaopfcgpfiiaaW.PrintLast Go.Proofs.YtadaopfcgpfiiaaW.PrintMore PCg
set_option linter.unusedVariables false
set_option linter.unusedSimpArgs false
def succL (b : S49) : List Int := if b.f1 = 1 ∨ (b.f1 = 2 ∧ b.f3 = b.f4) then [b.f3] else if b.f1 = 2 then [b.f3, b.f4] else []
theorem succ_f (b : S49) : ir_Succ.f 3 b.f0 b.f1 b.f2 b.f3 b.f4 = some (succL b) := by
  unfold ir_Succ.f succL
  by_cases h1 : b.f1 = 1
  · simp [h1, ir_Succ.j0]
  · by_cases h2 : b.f1 = 2
    · by_cases h3 : b.f3 = b.f4
      · simp [h2, h3, ir_Succ.j0]
      · simp [h2, h3, ir_Succ.j0]
    · simp [h1, h2, ir_Succ.j0]
theorem succL_len (b : S49) : (succL b).length ≤ 2 := by
  unfold succL
  split
  · simp
  · split <;> simp
/-- a block is well-formed in a function with so many registers and blocks -/
structure BlkWf (regs nb : Int) (b : S49) : Prop where
  k1 : 1 ≤ b.f1
  k3 : b.f1 ≤ 3
  x : b.f1 = 2 → 0 ≤ b.f2 ∧ b.f2 < regs
  succ : ∀ t ∈ succL b, 0 ≤ t ∧ t < nb
  ins : ∀ i ∈ b.f0, insWf regs i
  len : b.f0.length ≤ 9223372036854775806
theorem insWf_of_ok {regs : Int} {arrs shared : List S44} {i : S51} (h : insOk regs arrs shared i = true) : insWf regs i := by
  have hop : 1 ≤ i.f0 ∧ i.f0 ≤ 16 := by
    rcases Decidable.em (1 ≤ i.f0 ∧ i.f0 ≤ 16) with h' | h'
    · exact h'
    · exfalso
      have : (shp i.f0).ok = false := by
        unfold shp
        simp [show i.f0 ≠ 1 from by omega, show i.f0 ≠ 2 from by omega, show i.f0 ≠ 3 from by omega, show i.f0 ≠ 4 from by omega, show i.f0 ≠ 5 from by omega, show i.f0 ≠ 6 from by omega, show i.f0 ≠ 7 from by omega, show i.f0 ≠ 8 from by omega, show i.f0 ≠ 9 from by omega, show i.f0 ≠ 10 from by omega, show i.f0 ≠ 11 from by omega, show i.f0 ≠ 12 from by omega, show i.f0 ≠ 13 from by omega, show i.f0 ≠ 14 from by omega, show i.f0 ≠ 15 from by omega, show i.f0 ≠ 16 from by omega]
      simp [insOk, this] at h
  refine ⟨hop.1, hop.2, ?_⟩
  simp only [insOk, Bool.and_eq_true, decide_eq_true_eq] at h
  obtain ⟨⟨⟨⟨⟨⟨_, hd⟩, hy⟩, _⟩, _⟩, hx⟩, _⟩ := h
  have hx' : (shp i.f0).x = true → regOk true i.f2 regs = true := by
    intro hxx
    unfold xOk at hx
    by_cases h16 : i.f0 = 16
    · rw [h16] at hxx
      simp [shp] at hxx
    · rw [if_neg h16, hxx] at hx
      exact hx
  intro r hr
  have key : ∀ q : Int, regOk true q regs = true → 0 ≤ q ∧ q < regs := fun q hq => by simpa [regOk] using hq
  simp only [usesL, defL, List.mem_append] at hr
  rcases hr with (hr | hr) | hr
  · cases hq : (shp i.f0).x <;> simp [hq] at hr
    subst hr; exact key _ (hx' hq)
  · cases hq : (shp i.f0).y <;> simp [hq] at hr
    subst hr; rw [hq] at hy; exact key _ hy
  · cases hq : (shp i.f0).d <;> simp [hq] at hr
    subst hr; rw [hq] at hd; exact key _ hd
theorem blkWf_of_ok {regs nb : Int} {arrs shared : List S44} {b : S49} (h : blkOk regs nb arrs shared b = true) (hl : b.f0.length ≤ 9223372036854775806) : BlkWf regs nb b := by
  simp only [blkOk, Bool.and_eq_true] at h
  obtain ⟨he, hi⟩ := h
  rw [List.all_eq_true] at hi
  have hk : b.f1 = 1 ∨ b.f1 = 2 ∨ b.f1 = 3 := by
    unfold endOk at he
    by_cases h1 : b.f1 = 1
    · exact .inl h1
    · by_cases h2 : b.f1 = 2
      · exact .inr (.inl h2)
      · rw [if_neg h1, if_neg h2] at he
        simp at he
        exact .inr (.inr he.1.1.1)
  refine ⟨by omega, by omega, ?_, ?_, fun i hi' => insWf_of_ok (hi i hi'), hl⟩
  · intro h2
    simp [endOk, h2] at he
    omega
  · intro t ht
    rcases hk with h1 | h1 | h1
    · simp [endOk, h1, tgtOk] at he
      simp [succL, h1] at ht
      omega
    · simp [endOk, h1, tgtOk] at he
      by_cases h3 : b.f3 = b.f4
      · simp [succL, h1, h3] at ht
        omega
      · simp [succL, h1, h3] at ht
        omega
    · simp [succL, h1] at ht
end Go.Proofs.Ytadaopfcgpfiiaa
namespace Go.Proofs.Ytadaopfcgpfiiaa
open Go.RowKit Go.Proofs.YtadaopfcgpfiiaaW.PrintWords Go.Proofs.YtadaopfcgpfiiaaW.PrintLast Go.Proofs.YtadaopfcgpfiiaaW.PrintMore PCg
set_option linter.unusedVariables false
set_option linter.unusedSimpArgs false
theorem succ_any (A : Option Addr) (c : Nat) (b : S49) (w : World) (hr : Kd.C k51 w A b.f0.length b.f0) (hcp : b.f0.length ≤ c) :
    Calls Try.prog 90 #[.agg #[.slice A b.f0.length c, .int .u8 b.f1, .int .i64 b.f2, .int .i64 b.f3, .int .i64 b.f4]] w fun e w' => ∃ v, e = .returned v ∧ Kd.R (Kd.int .i64) 3 w' w.heap.size (fun _ => True) v (succL b) ∧ Below w.heap.size w w' :=
  ir_Succ.calls 3 A c _ _ _ _ _ _ w hr hcp (succ_f b)
theorem mem_rd {α : Type} {xs : List α} {z : α} {i : Int} (h0 : 0 ≤ i) (h1 : i < xs.length) : xs.getD i.toNat z ∈ xs := by
  rw [List.getD_eq_getElem?_getD, List.getElem?_eq_getElem (by omega)]
  simp
end Go.Proofs.Ytadaopfcgpfiiaa
namespace Go.Proofs.Ytadaopfcgpfiiaa
open Go.RowKit Go.Proofs.YtadaopfcgpfiiaaW.PrintWords Go.Proofs.YtadaopfcgpfiiaaW.PrintLast Go.Proofs.YtadaopfcgpfiiaaW.PrintMore PCg
set_option linter.unusedVariables false
set_option linter.unusedSimpArgs false
/-- what a state grows by -/
def Sz (st : GSt) (n : Nat) (st' : GSt) : Prop := st'.code.length ≤ st.code.length + n ∧ st'.refs.length ≤ st.refs.length + 1 ∧ st'.starts = st.starts ∧ st'.patches = st.patches
theorem sz_ite {c : Prop} [Decidable c] {st a b : GSt} {n : Nat} (ha : Sz st n a) (hb : Sz st n b) : Sz st n (if c then a else b) := by split; exact ha; exact hb
theorem sz_emit {st : GSt} {l : List S53} {n : Nat} (h : l.length ≤ n) : Sz st n (st.emit l) := ⟨by simp [GSt.emit]; exact h, by simp [GSt.emit], rfl, rfl⟩
theorem sz_emit_refer {st : GSt} {l : List S53} {x : S53} {nm : ByteArray} {n : Nat} (h : l.length + 1 ≤ n) : Sz st n ((st.emit l).refer x nm) := ⟨by simp [GSt.emit, GSt.refer]; omega, by simp [GSt.emit, GSt.refer], rfl, rfl⟩
theorem sz_refer {st : GSt} {x : S53} {nm : ByteArray} {n : Nat} (h : 1 ≤ n) : Sz st n (st.refer x nm) := ⟨by simp [GSt.refer]; omega, by simp [GSt.refer], rfl, rfl⟩
theorem genDef1_sz (sp : Int) (pl : List (Int × Int)) (m : ByteArray → Int) (st : GSt) (i : S51) : Sz st 6 (genDef1 sp pl m st i) := by
  have h1 := useCode_len sp (rdTwo pl i.f2) 14
  have h2 := useCode_len sp (rdTwo pl i.f3) 15
  have h4 := constCode_len (useReg (rdTwo pl i.f1) 14) (wrap32 i.f4)
  have h5 := binCode_len i.f4 (useReg (rdTwo pl i.f1) 14) (useReg (rdTwo pl i.f2) 14) (useReg (rdTwo pl i.f3) 15)
  unfold genDef1
  repeat' refine sz_ite ?_ ?_
  all_goals first
    | (refine sz_emit ?_; simp only [List.length_append, List.length_cons, List.length_nil]; omega)
    | (refine sz_emit ?_; omega)
    | (refine sz_emit_refer ?_; omega)
    | exact ⟨by omega, by omega, rfl, rfl⟩
theorem genDef_sz (sp : Int) (pl : List (Int × Int)) (m : ByteArray → Int) (st : GSt) (i : S51) : Sz st 7 (genDef sp pl m st i) := by
  have h3 := storeCode_len sp (rdTwo pl i.f1)
  obtain ⟨a1, a2, a3, a4⟩ := genDef1_sz sp pl m st i
  exact ⟨by simp only [genDef, GSt.emit, List.length_append]; omega, a2, a3, a4⟩
theorem genIns_sz (sp : Int) (pl : List (Int × Int)) (m : ByteArray → Int) (st : GSt) (i : S51) : Sz st 8 (genIns sp pl m st i) := by
  have h1 := useCode_len sp (rdTwo pl i.f2) 14
  have h2 := useCode_len sp (rdTwo pl i.f3) 15
  unfold genIns
  repeat' refine sz_ite ?_ ?_
  all_goals first
    | (obtain ⟨a1, a2, a3, a4⟩ := genDef_sz sp pl m st i; exact ⟨by omega, a2, a3, a4⟩)
    | (refine sz_emit ?_; simp only [List.length_append, List.length_cons, List.length_nil]; omega)
    | (refine sz_emit_refer ?_; simp only [List.length_append]; omega)
    | (refine sz_refer ?_; omega)
def genCode (sp : Int) (pl : List (Int × Int)) (m : ByteArray → Int) (st : GSt) (l : List S51) : GSt := l.foldl (genIns sp pl m) st
theorem genCode_sz (sp : Int) (pl : List (Int × Int)) (m : ByteArray → Int) (l : List S51) : ∀ st : GSt,
    (genCode sp pl m st l).code.length ≤ st.code.length + 8 * l.length ∧ (genCode sp pl m st l).refs.length ≤ st.refs.length + l.length ∧ (genCode sp pl m st l).starts = st.starts ∧ (genCode sp pl m st l).patches = st.patches := by
  induction l with
  | nil => intro st; exact ⟨Nat.le_refl _, Nat.le_refl _, rfl, rfl⟩
  | cons i l ih =>
    intro st
    obtain ⟨a1, a2, a3, a4⟩ := genIns_sz sp pl m st i
    obtain ⟨b1, b2, b3, b4⟩ := ih (genIns sp pl m st i)
    refine ⟨?_, ?_, b3.trans a3, b4.trans a4⟩ <;> simp only [genCode, List.foldl_cons, List.length_cons] at * <;> omega
theorem genCode_step (sp : Int) (pl : List (Int × Int)) (m : ByteArray → Int) (st : GSt) (l : List S51) (k : Int) (h0 : 0 ≤ k) (h1 : k < l.length) :
    genIns sp pl m (genCode sp pl m st (l.take k.toNat)) (rd_T51 l k) = genCode sp pl m st (l.take (k + 1).toNat) := by
  rw [show (k + 1).toNat = k.toNat + 1 from by omega, List.take_add_one, List.getElem?_eq_getElem (by omega)]
  simp only [genCode, Option.toList_some, List.foldl_append, List.foldl_cons, List.foldl_nil, rd_T51, List.getD_eq_getElem?_getD]
  rw [List.getElem?_eq_getElem (by omega)]
  rfl
def GSt.start (st : GSt) : GSt := { st with starts := st.starts ++ [(st.code.length : Int)] }
/-- the code of block k -/
def genBlk (sp : Int) (pl : List (Int × Int)) (m : ByteArray → Int) (st : GSt) (k : Int) (b : S49) : GSt :=
  let st2 := genCode sp pl m st.start b.f0
  if b.f1 = 3 then st2.emit [⟨1, 0, 0, 0, 0⟩]
  else if b.f1 = 2 then
    let st3 := (st2.emit (useCode sp (rdTwo pl b.f2) 14)).leap ⟨23, useReg (rdTwo pl b.f2) 14, 0, 0, 0⟩ b.f3
    if b.f4 = k + 1 then st3 else st3.leap ⟨24, 0, 0, 0, 0⟩ b.f4
  else if b.f3 = k + 1 then st2 else st2.leap ⟨24, 0, 0, 0, 0⟩ b.f3
def blkPre (n : Nat) (b : S49) : Prop := (∀ i ∈ b.f0, insPre n i ∧ i.f5.size ≤ maxLen) ∧ (b.f1 = 2 → regIn n b.f2)
theorem infoINT : (Try.prog.info? 3).map (fun i => (i.zero, i.size, i.bytes)) = some (some (.int .i64 0), 1, 8) := by kernel_rfl
theorem one_int {W : World} {b t : Nat} {i : Int} (h : W.heap[b]? = some (.cells #[.int .i64 i] t (0, 0))) : Kd.C (Kd.int .i64) W (some ⟨b, 0, none⟩) 1 [i] := by
  refine ⟨rfl, by omega, fun _ => ⟨⟨b, 0, none⟩, rfl, fun j p hj => ?_⟩⟩
  match j, hj with
  | 0, hj =>
    have hp : i = p := by simpa using hj
    subst hp
    refine ⟨[.int .i64 i], rfl, rfl, fun q u hu => ?_⟩
    have ha : (⟨b, 0, none⟩ : Addr).add (0 * (Kd.int .i64).sz + q) = ⟨b, q, none⟩ := by rw [Nat.zero_mul, Nat.zero_add]; exact add_plain b q
    rw [ha, blk_cell h q]
    simpa using hu
  | j + 1, hj => simp at hj
theorem ins_post {w0 : World} {g : Nat} {O : Nat → Prop} {E : GEnv} {st : GSt} {w2 W w : World} (h : GPost w0.heap.size g O E w2 st W) (hk : Below W.heap.size W w) (hB2 : Below w0.heap.size w0 w2)
    (Ap : Option Addr) (cp : Nat) (places : List (Int × Int)) (N : Nat) (m : ByteArray → Int) (i : S51) (hP : Kd.C kTwo w0 Ap places.length places) (hpv : E.pv = .slice Ap places.length cp)
    (hM : GMap w2 E.mb N m) (hmg : E.mb ≠ g) (hmO : ¬ O E.mb) (s0 : 0 ≤ E.spill) (s1 : E.spill ≤ 1000000) (hpl : ∀ v, (rdTwo places v).2 ≤ 1000000)
    (hsz : st.code.length + 12 ≤ 1000000) (hrz : st.refs.length + 1 ≤ 1000000) (hns : i.f5.size ≤ maxLen) (hi : insPre places.length i) :
    Calls Try.prog 49 #[.pointer (some ⟨g, 0, none⟩), .agg #[.int .u8 i.f0, .int .i64 i.f1, .int .i64 i.f2, .int .i64 i.f3, .int .i64 i.f4, .string i.f5]] w
      fun e w' => e = .returned (.tuple #[]) ∧ GPost w0.heap.size g O E w2 (genIns E.spill places m st i) w' := by
  have hB := h.base
  have hb := (hB2.trans (gpost_below h)).trans (hk.mono hB)
  have hM' := (hM.post h hmg hmO).below hk
  have hml := hM.lt
  obtain ⟨O1, hG, hO, hk1⟩ := h
  have hmO1 : ¬ O1 E.mb := fun h3 => by
    rcases hO _ h3 with h | h
    · exact hmO h
    · omega
  exact (instruction_any w0 g O1 E st Ap cp places N m i w (hG.below hk) hb hP hpv hM' hmg hmO1 s0 s1 hpl hsz hrz hns hi).mono (fun e w' ⟨r, q⟩ => ⟨r, GPost.trans hk1 hO (GPost.pre hB hk q)⟩)
end Go.Proofs.Ytadaopfcgpfiiaa
namespace Go.Proofs.Ytadaopfcgpfiiaa
open Go.RowKit Go.Proofs.YtadaopfcgpfiiaaW.PrintWords Go.Proofs.YtadaopfcgpfiiaaW.PrintLast Go.Proofs.YtadaopfcgpfiiaaW.PrintMore PCg
set_option linter.unusedVariables false
set_option linter.unusedSimpArgs false
/-- what an allocation is good for -/
def AllocOk (regs : Int) (places : List (Int × Int)) (slots : Int) : Prop :=
  (places.length : Int) = regs ∧ 0 ≤ slots ∧ slots ≤ 10000 ∧ ∀ p ∈ places, (p.2 = -1 ∧ 2 ≤ p.1 ∧ p.1 ≤ 9) ∨ (p.1 = 0 ∧ 0 ≤ p.2 ∧ p.2 < slots)
theorem GMap.put {w : World} {mb N : Nat} {m : ByteArray → Int} (h : GMap w mb N m) (hN : N < maxLen) {s : ByteArray} (hs : s.size ≤ maxLen) (v : Int) (hv : (Lit.int .i64 v).wf = true) :
    ∃ w', (Instr.mapUpdate 87 (.map (some mb)) (.string s) (.int .i64 v)).run Try.prog w = .ok () w' ∧ GMap w' mb (N + 1) (fun s' => if s' = s then v else m s') ∧ w.grownBy w' (some mb) := by
  obtain ⟨D, h, hm, hl⟩ := h
  obtain ⟨w', hr, ho, hg⟩ := h.update (Maps.string_keyed Try.underlying9) Try.underlying87 hN (WideMaps.keyOf_string_mk Try.underlying9 hs) (plainElem_int Try.underlying3 hv)
  refine ⟨w', hr, ⟨_, ho, hm.put _ _, fun s' hs' => ?_⟩, hg⟩
  by_cases e : s' = s
  · subst e
    rw [Maps.atKey_put_same hm (by trivial)]
    simp only [if_true]
  · rw [Maps.atKey_put_other (fun he => e (ByteArray.ext (Array.ext' (by simpa using he))))]
    simp only [if_neg e]
    exact hl s' hs'
/-- the addresses of the first k arrays -/
def mapTo (arrs : List S44) (addr : List Int) : Nat → ByteArray → Int
  | 0 => fun _ => 0
  | k + 1 => fun s => if s = (rd_T44 arrs k).f0 then rd addr k else mapTo arrs addr k s
/-- the stores that clear the spill slots -/
def genStores (sp : Int) (n : Nat) : List S53 := (List.range n).map (fun (s : Nat) => (⟨19, 0, 0, 0, sp + (s : Int)⟩ : S53))
theorem genStores_succ (sp : Int) (n : Nat) : genStores sp (n + 1) = genStores sp n ++ [⟨19, 0, 0, 0, sp + n⟩] := by simp [genStores, List.range_succ]
/-- the code of the first k blocks -/
def genTo (sp : Int) (pl : List (Int × Int)) (m : ByteArray → Int) (blks : List S49) (st : GSt) : Nat → GSt
  | 0 => st
  | k + 1 => genBlk sp pl m (genTo sp pl m blks st k) k (rd_T49 blks k)
def sumTo (blks : List S49) : Nat → Nat
  | 0 => 0
  | k + 1 => sumTo blks k + (rd_T49 blks k).f0.length
theorem sumTo_le (blks : List S49) {j k : Nat} (h : j ≤ k) : sumTo blks j ≤ sumTo blks k := by
  induction k with
  | zero => rw [show j = 0 by omega]; exact Nat.le_refl _
  | succ k ih =>
    rcases Nat.lt_or_ge j (k + 1) with h' | h'
    · exact Nat.le_trans (ih (by omega)) (Nat.le_add_right _ _)
    · rw [show j = k + 1 by omega]; exact Nat.le_refl _
theorem genBlk_sz (sp : Int) (pl : List (Int × Int)) (m : ByteArray → Int) (st : GSt) (k : Int) (b : S49) :
    (genBlk sp pl m st k b).code.length ≤ st.code.length + 8 * b.f0.length + 3 ∧ (genBlk sp pl m st k b).refs.length ≤ st.refs.length + b.f0.length ∧ (genBlk sp pl m st k b).starts = st.starts ++ [(st.code.length : Int)] ∧ (genBlk sp pl m st k b).patches.length ≤ st.patches.length + 2 := by
  obtain ⟨a1, a2, a3, a4⟩ := genCode_sz sp pl m b.f0 st.start
  have h1 := useCode_len sp (rdTwo pl b.f2) 14
  unfold genBlk
  simp only
  generalize genCode sp pl m st.start b.f0 = st2 at *
  simp only [GSt.start] at a1 a2 a3 a4
  split
  · simp only [GSt.emit, List.length_append, List.length_cons, List.length_nil, a4]; exact ⟨by omega, a2, a3, by omega⟩
  · split
    · split
      · simp only [GSt.emit, GSt.leap, List.length_append, List.length_cons, List.length_nil, a4]; exact ⟨by omega, a2, a3, by omega⟩
      · simp only [GSt.emit, GSt.leap, List.length_append, List.length_cons, List.length_nil, a4]; exact ⟨by omega, a2, a3, by omega⟩
    · split
      · rw [a4]; exact ⟨by omega, a2, a3, by omega⟩
      · simp only [GSt.emit, GSt.leap, List.length_append, List.length_cons, List.length_nil, a4]; exact ⟨by omega, a2, a3, by omega⟩
theorem genTo_sz (sp : Int) (pl : List (Int × Int)) (m : ByteArray → Int) (blks : List S49) (st : GSt) (k : Nat) :
    (genTo sp pl m blks st k).code.length ≤ st.code.length + 8 * sumTo blks k + 3 * k ∧ (genTo sp pl m blks st k).refs.length ≤ st.refs.length + sumTo blks k ∧ (genTo sp pl m blks st k).starts.length = st.starts.length + k ∧ (genTo sp pl m blks st k).patches.length ≤ st.patches.length + 2 * k := by
  induction k with
  | zero => simp [genTo, sumTo]
  | succ k ih =>
    obtain ⟨a1, a2, a3, a4⟩ := ih
    obtain ⟨b1, b2, b3, b4⟩ := genBlk_sz sp pl m (genTo sp pl m blks st k) k (rd_T49 blks k)
    simp only [genTo, sumTo]
    refine ⟨by omega, by omega, ?_, by omega⟩
    rw [b3]; simp; omega
def zeroObj : Value := .agg #[.string ⟨#[]⟩, .slice none 0 0, .int .i64 0, .slice none 0 0]
/-- the code ahead of the patches -/
def genTask (arrs : List S44) (addr : List Int) (size : Int) (blks : List S49) (places : List (Int × Int)) (slots : Int) : GSt :=
  genTo size places (mapTo arrs addr arrs.length) blks ⟨genStores size slots.toNat, [], [], []⟩ blks.length
/-- a branch finds its block -/
def patch1 (starts : List Int) (code : List S53) (p : Int × Int) : List S53 :=
  code.set p.1.toNat ⟨(rd_T53 code p.1).f0, (rd_T53 code p.1).f1, (rd_T53 code p.1).f2, (rd_T53 code p.1).f3, rd starts p.2 - p.1 - 1⟩
def patchAll (st : GSt) : List S53 := st.patches.foldl (patch1 st.starts) st.code
/-- what Task answers for a valid function -/
def TaskOut (nm : ByteArray) (arrs : List S44) (addr : List Int) (size : Int) (blks : List S49) (places : List (Int × Int)) (slots : Int) (e : Ending) (w w' : World) : Prop :=
  ((512 < size + slots ∨ 4096 < (genTask arrs addr size blks places slots).code.length) ∧ e = .returned (.tuple #[zeroObj, .int .i64 5]) ∧ Below w.heap.size w w') ∨
  (size + slots ≤ 512 ∧ (genTask arrs addr size blks places slots).code.length ≤ 4096 ∧ ∃ vc vr, e = .returned (.tuple #[.agg #[.string nm, vc, .int .i64 (size + slots), vr], .int .i64 0]) ∧
    Kd.R k53 53 w' w.heap.size (fun _ => True) vc (patchAll (genTask arrs addr size blks places slots)) ∧ Kd.R k105 105 w' w.heap.size (fun _ => True) vr (genTask arrs addr size blks places slots).refs ∧ Below w.heap.size w w')
theorem code_addr {W : World} {base n cap : Nat} {ok : Nat → Prop} {A : Option Addr} {xs : List S53} (h : Kd.R k53 53 W base ok (.slice A n cap) xs) (hn : 0 < n) : ∃ g cells, A = some ⟨g, 0, none⟩ ∧ W.heap[g]? = some (.cells cells 53 (0, 0)) := by
  obtain ⟨_, inner, hown, hr⟩ := h
  rcases hown.2 with ⟨hv, _⟩ | ⟨g', cap', cur, hv, hb, hh, _⟩
  · injection hv with h1 h2 h3; omega
  · injection hv with h1 h2 h3
    exact ⟨g', cur, h1, hh⟩
theorem code_put {W : World} {base g n cap : Nat} {ok : Nat → Prop} {xs : List S53} (h : Kd.R k53 53 W base ok (.slice (some ⟨g, 0, none⟩) n cap) xs) (i : Int) (h0 : 0 ≤ i) (h1 : i < n) (v : Int) :
    Kd.R k53 53 (W.setCell ⟨g, i.toNat * 5 + 4, none⟩ (.int .i64 v)) base ok (.slice (some ⟨g, 0, none⟩) n cap) (xs.set i.toNat ⟨(rd_T53 xs i).f0, (rd_T53 xs i).f1, (rd_T53 xs i).f2, (rd_T53 xs i).f3, v⟩) ∧ W.grownBy (W.setCell ⟨g, i.toNat * 5 + 4, none⟩ (.int .i64 v)) (some g) := by
  obtain ⟨hn, hnc, hC⟩ := Kd.R_reads' h
  subst hn
  obtain ⟨ad, c, e, hl, hK, hc⟩ := Kd.C_get hC z53 i h0 h1
  obtain rfl := k53_open hK
  injection e with e
  have hcc : ∀ j u, ([.int .u8 (rd_T53 xs i).f0, .int .i64 (rd_T53 xs i).f1, .int .i64 (rd_T53 xs i).f2, .int .i64 (rd_T53 xs i).f3, .int .i64 (rd_T53 xs i).f4] : List Value)[j]? = some u → W.cell? ⟨g, i.toNat * k53.sz + j, none⟩ = some u := fun j u hj => by
    have := hc j u hj
    rw [← e] at this
    have ha : (⟨g, 0, none⟩ : Addr).add (i.toNat * k53.sz + j) = ⟨g, i.toNat * k53.sz + j, none⟩ := add_plain g _
    rwa [ha] at this
  exact Kd.R_seg h i h0 h1 (c := [.int .u8 (rd_T53 xs i).f0, .int .i64 (rd_T53 xs i).f1, .int .i64 (rd_T53 xs i).f2, .int .i64 (rd_T53 xs i).f3, .int .i64 (rd_T53 xs i).f4]) (seg := [.int .i64 v]) (j := 4) (okp := fun _ => False) rfl hcc (Nat.le_refl 5) (k53_mkM _ _ _ ⟨(rd_T53 xs i).f0, (rd_T53 xs i).f1, (rd_T53 xs i).f2, (rd_T53 xs i).f3, v⟩) (fun _ h => h.elim)
def patchTo (st : GSt) (k : Nat) : List S53 := (st.patches.take k).foldl (patch1 st.starts) st.code
theorem patchTo_len (st : GSt) (k : Nat) : (patchTo st k).length = st.code.length := by
  unfold patchTo
  generalize st.patches.take k = l
  generalize st.code = c
  induction l generalizing c with
  | nil => rfl
  | cons p l ih => rw [List.foldl_cons, ih]; simp [patch1]
theorem patchTo_step (st : GSt) (k : Int) (h0 : 0 ≤ k) (h1 : k < st.patches.length) : patch1 st.starts (patchTo st k.toNat) (rdTwo st.patches k) = patchTo st (k + 1).toNat := by
  rw [show (k + 1).toNat = k.toNat + 1 from by omega]
  unfold patchTo
  rw [List.take_add_one, List.getElem?_eq_getElem (by omega)]
  simp only [Option.toList_some, List.foldl_append, List.foldl_cons, List.foldl_nil, rdTwo, List.getD_eq_getElem?_getD]
  rw [List.getElem?_eq_getElem (by omega)]
  rfl
/-- the patches lie within the code, their blocks among the blocks -/
def patchOk (st : GSt) : Prop := (∀ p ∈ st.patches, (0 ≤ p.1 ∧ p.1 < st.code.length) ∧ 0 ≤ p.2 ∧ p.2 < st.starts.length) ∧ ∀ x ∈ st.starts, 0 ≤ x ∧ x ≤ 1000000
theorem task_info : (Try.prog.info? 31).map (·.size) = some 4 := by kernel_rfl
theorem task_ret {R : Ending → World → Prop} {a : Act} {w : World} (g : Nat) (c0 c1 c2 c3 v : Value) (hp : a.tmps.getD 2 undef = .pointer (some ⟨g, 0, none⟩)) (h3 : a.tmps.getD 3 undef = v) (hg : w.heap[g]? = some (.cells #[c0, c1, c2, c3] 31 (0, 0))) (hd : a.defers = [])
    (hR : R (.returned (.tuple #[.agg #[c0, c1, c2, c3], v])) w) : bodyPost Try.prog Try.f12 R .ret a w := by
  refine bodyPost_ret (v := .tuple #[.agg #[c0, c1, c2, c3], v]) ?_ hd hR
  rw [results_cell_tmp (p := 2) (u := 3) (ty := 31) rfl, hp, h3]
  simp only [asAddr, Sem.run_pure, Result.andThen_ok]
  rw [run_loadVar_row w g 31 31 #[c0, c1, c2, c3] (0, 0) _ hg Try.underlying31 rfl task_info]
  rfl
theorem blk_post {w0 : World} {g : Nat} {O : Nat → Prop} {E : GEnv} {st : GSt} {w2 W w : World} (h : GPost w0.heap.size g O E w2 st W) (hk : Below W.heap.size W w) (hB2 : Below w0.heap.size w0 w2)
    (Ap : Option Addr) (cp : Nat) (places : List (Int × Int)) (N : Nat) (m : ByteArray → Int) (A3 : Option Addr) (c3 : Nat) (blks : List S49) (k : Int) (hP : Kd.C kTwo w0 Ap places.length places) (hpv : E.pv = .slice Ap places.length cp)
    (hr3 : Kd.C k49 w0 A3 blks.length blks) (hcp3 : blks.length ≤ c3) (hm3 : blks.length ≤ 1000000) (hbv : E.bv = .slice A3 blks.length c3) (k0 : 0 ≤ k) (k1 : k < blks.length)
    (hM : GMap w2 E.mb N m) (hmg : E.mb ≠ g) (hmO : ¬ O E.mb) (s0 : 0 ≤ E.spill) (s1 : E.spill ≤ 1000000) (hpl : ∀ v, (rdTwo places v).2 ≤ 1000000) (hpre : blkPre places.length (rd_T49 blks k))
    (hsz : st.code.length + 8 * (rd_T49 blks k).f0.length + 20 ≤ 1000000) (hrz : st.refs.length + (rd_T49 blks k).f0.length + 1 ≤ 1000000) (hsz2 : st.starts.length + 1 ≤ 1000000) (hsz3 : st.patches.length + 2 ≤ 1000000) :
    Calls Try.prog 30 #[.pointer (some ⟨g, 0, none⟩), .int .i64 k] w
      fun e w' => e = .returned (.tuple #[]) ∧ GPost w0.heap.size g O E w2 (genBlk E.spill places m st k (rd_T49 blks k)) w' := by
  have hB := h.base
  have hb := (hB2.trans (gpost_below h)).trans (hk.mono hB)
  have hM' := (hM.post h hmg hmO).below hk
  have hml := hM.lt
  obtain ⟨O1, hG, hO, hk1⟩ := h
  have hmO1 : ¬ O1 E.mb := fun h3 => by
    rcases hO _ h3 with h | h
    · exact hmO h
    · omega
  exact (block_any w0 g O1 E st Ap cp places N m A3 c3 blks k w (hG.below hk) hb hP hpv hr3 hcp3 hm3 hbv k0 k1 hM' hmg hmO1 s0 s1 hpl hpre hsz hrz hsz2 hsz3).mono (fun e w' ⟨r, q⟩ => ⟨r, GPost.trans hk1 hO (GPost.pre hB hk q)⟩)
theorem allocOk_pl {regs : Int} {places : List (Int × Int)} {slots : Int} (h : AllocOk regs places slots) (v : Int) : (rdTwo places v).2 ≤ 1000000 := by
  unfold rdTwo
  rw [List.getD_eq_getElem?_getD]
  cases hg : places[v.toNat]? with
  | none => simp
  | some p =>
    have h1 := h.2.2.1
    rcases h.2.2.2 p (List.mem_of_getElem? hg) with h2 | h2
    · simp; omega
    · simp; omega
end Go.Proofs.Ytadaopfcgpfiiaa
namespace Go.Proofs.Ytadaopfcgpfiiaa
open Go.RowKit Go.Proofs.YtadaopfcgpfiiaaW.PrintWords Go.Proofs.YtadaopfcgpfiiaaW.PrintLast Go.Proofs.YtadaopfcgpfiiaaW.PrintMore PCg
set_option linter.unusedVariables false
set_option linter.unusedSimpArgs false
theorem w64 {n : Int} (h : -9223372036854775808 ≤ n ∧ n ≤ 9223372036854775807) : wrap64 n = n := IntWalk.wrap64_in n h
/-- the address of array k -/
def layA (arrs : List S44) : Nat → Int
  | 0 => 0
  | k + 1 => wrap64 (layA arrs k + mx (rd_T44 arrs k).f1 0)
def layAll (arrs : List S44) (k : Nat) : List Int := (List.range k).map (layA arrs)
theorem layAll_len (arrs : List S44) (k : Nat) : (layAll arrs k).length = k := by simp [layAll]
theorem layout_go (arrs : List S44) (hl : arrs.length ≤ 1000000) : ∀ n j fuel : Nat, j + n = arrs.length → n < fuel →
    codegen_Layout.l0 fuel (layAll arrs j) (layA arrs j) arrs (arrs.length : Int) (j : Int) = some (layAll arrs arrs.length, layA arrs arrs.length) := by
  intro n
  induction n with
  | zero =>
    intro j fuel hj hf
    obtain ⟨f, rfl⟩ : ∃ f, fuel = f + 1 := ⟨fuel - 1, by omega⟩
    have e : j = arrs.length := by omega
    subst e
    unfold codegen_Layout.l0
    rw [if_neg (by omega)]
  | succ n ih =>
    intro j fuel hj hf
    obtain ⟨f, rfl⟩ : ∃ f, fuel = f + 1 := ⟨fuel - 1, by omega⟩
    unfold codegen_Layout.l0
    rw [if_pos (by omega), if_pos (by omega), if_pos (by omega), if_pos (by rw [layAll_len]; omega), w64 (n := (j : Int) + 1) (by omega)]
    have h := ih (j + 1) f (by omega) (by omega)
    rw [show layAll arrs (j + 1) = layAll arrs j ++ [layA arrs j] from by simp [layAll, List.range_succ]] at h
    rw [show layA arrs (j + 1) = wrap64 (layA arrs j + mx (rd_T44 arrs (j : Int)).f1 0) from rfl] at h
    rw [show ((j + 1 : Nat) : Int) = (j : Int) + 1 from by omega] at h
    exact h
theorem layout_f (arrs : List S44) (hl : arrs.length ≤ 1000000) (K : Nat) (hK : arrs.length < K) : codegen_Layout.f K arrs = some (layAll arrs arrs.length, layA arrs arrs.length) := by
  have h := layout_go arrs hl arrs.length 0 K (by omega) hK
  exact h
end Go.Proofs.Ytadaopfcgpfiiaa
