/- Lemmas: what the theorem of the claim's last text needs, joined by a program out of the seat's texts A0, C0, C1, C2, C3, C4. -/
import Derived.Test.YtadaopfcgpfiiaaBaseX12
import Derived.WalkSpells
import Derived.WalkLawsBesides
import Derived.Test.YtadaopfcgpfiiaaBaseX13
import Derived.Deep.RegionLaw
import Derived.BigRegion
import Derived.Laws.EntriesVeiled
namespace Go.Proofs.Ytadaopfcgpfiiaa
open Go.RowKit Go.Proofs.YtadaopfcgpfiiaaW.PrintWords Go.Proofs.YtadaopfcgpfiiaaW.PrintLast Go.Proofs.YtadaopfcgpfiiaaW.PrintMore PCg
set_option linter.unusedVariables false
set_option linter.unusedSimpArgs false
theorem retb {a b : Bool} (h : a = b) : Ending.returned (.bool a) = .returned (.bool b) := by rw [h]
theorem reti {k : IntKind} {a b : Int} (h : a = b) : Ending.returned (.int k a) = .returned (.int k b) := by rw [h]
/-- slices.IndexFunc's answer -/
def ixf {α : Type} (p : α → Bool) (xs : List α) : Int := match xs.findIdx? p with | some i => (i : Int) | none => -1
theorem ixf_none {α : Type} {p : α → Bool} {xs : List α} (h : ∀ j, ∀ hj : j < xs.length, p xs[j] = false) : ixf p xs = -1 := by
  unfold ixf
  rw [List.findIdx?_eq_none_iff.2]
  intro x hx
  obtain ⟨j, hj, rfl⟩ := List.getElem_of_mem hx
  exact h j hj
theorem ixf_some {α : Type} {p : α → Bool} {xs : List α} {k : Nat} (hk : k < xs.length) (h : ∀ j, ∀ hj : j < xs.length, j < k → p xs[j] = false) (hp : p xs[k] = true) : ixf p xs = k := by
  unfold ixf
  rw [List.findIdx?_eq_some_iff_getElem.2 ⟨hk, hp, fun j hj => by simp [h j (by omega) hj]⟩]
theorem ixf_ge {α : Type} (p : α → Bool) (xs : List α) : decide (0 ≤ ixf p xs) = xs.any p := by
  unfold ixf
  cases h : xs.findIdx? p with
  | none =>
    have := List.findIdx?_eq_none_iff.1 h
    symm
    simp only [Int.reduceNeg, Int.reduceLE, decide_false, List.any_eq_false]
    intro x hx; simp [this x hx]
  | some i =>
    obtain ⟨hi, hp, _⟩ := List.findIdx?_eq_some_iff_getElem.1 h
    simp only [Int.natCast_nonneg, decide_true]
    symm
    exact List.any_eq_true.2 ⟨xs[i], List.getElem_mem hi, hp⟩
theorem ixf_range {α : Type} (p : α → Bool) (xs : List α) : -1 ≤ ixf p xs ∧ ixf p xs ≤ xs.length := by
  unfold ixf
  cases h : xs.findIdx? p with
  | none => simp only; omega
  | some i => obtain ⟨hi, _⟩ := List.findIdx?_eq_some_iff_getElem.1 h; simp only; omega
theorem heap_alloc_at (w : World) (o : Obj) (b : Nat) (h : b = w.heap.size) : (w.alloc o).heap[b]? = some o := by subst h; exact heap_alloc_new w o
/-- a cell that lay below a region's start lies behind a call in the region, too -/
theorem keepCell {w6 W W2 : World} {b o : Nat} {v : Value} (hy : b < w6.heap.size) (hS : Aside0 (Below w6.heap.size w6 W)) (hb : Below W.heap.size W W2) (h : W.cell? ⟨b, o, none⟩ = some v) : W2.cell? ⟨b, o, none⟩ = some v :=
  (hb.cell (p := ⟨b, o, none⟩) (Nat.lt_of_lt_of_le hy hS.out.size)).trans h
theorem keepBelow {w6 W W2 : World} (hS : Aside0 (Below w6.heap.size w6 W)) (hb : Below W.heap.size W W2) : Aside0 (Below w6.heap.size w6 W2) := ⟨below_step hS.out hb⟩
theorem blk1 {w : World} {b t : Nat} {v0 : Value} (h : w.heap[b]? = some (.cells #[v0] t (0, 0))) : w.cell? ⟨b, 0, none⟩ = some v0 := (blk_cell h 0).trans rfl
theorem blk2 {w : World} {b t : Nat} {v0 v1 : Value} (h : w.heap[b]? = some (.cells #[v0, v1] t (0, 0))) : w.cell? ⟨b, 0, none⟩ = some v0 ∧ w.cell? ⟨b, 1, none⟩ = some v1 := ⟨(blk_cell h 0).trans rfl, (blk_cell h 1).trans rfl⟩
theorem blk4 {w : World} {b t : Nat} {v0 v1 v2 v3 : Value} (h : w.heap[b]? = some (.cells #[v0, v1, v2, v3] t (0, 0))) : w.cell? ⟨b, 0, none⟩ = some v0 ∧ w.cell? ⟨b, 1, none⟩ = some v1 ∧ w.cell? ⟨b, 2, none⟩ = some v2 ∧ w.cell? ⟨b, 3, none⟩ = some v3 := ⟨(blk_cell h 0).trans rfl, (blk_cell h 1).trans rfl, (blk_cell h 2).trans rfl, (blk_cell h 3).trans rfl⟩
theorem blk5 {w : World} {b t : Nat} {v0 v1 v2 v3 v4 : Value} (h : w.heap[b]? = some (.cells #[v0, v1, v2, v3, v4] t (0, 0))) : w.cell? ⟨b, 0, none⟩ = some v0 ∧ w.cell? ⟨b, 1, none⟩ = some v1 ∧ w.cell? ⟨b, 2, none⟩ = some v2 ∧ w.cell? ⟨b, 3, none⟩ = some v3 ∧ w.cell? ⟨b, 4, none⟩ = some v4 := ⟨(blk_cell h 0).trans rfl, (blk_cell h 1).trans rfl, (blk_cell h 2).trans rfl, (blk_cell h 3).trans rfl, (blk_cell h 4).trans rfl⟩
theorem blk6 {w : World} {b t : Nat} {v0 v1 v2 v3 v4 v5 : Value} (h : w.heap[b]? = some (.cells #[v0, v1, v2, v3, v4, v5] t (0, 0))) : w.cell? ⟨b, 0, none⟩ = some v0 ∧ w.cell? ⟨b, 1, none⟩ = some v1 ∧ w.cell? ⟨b, 2, none⟩ = some v2 ∧ w.cell? ⟨b, 3, none⟩ = some v3 ∧ w.cell? ⟨b, 4, none⟩ = some v4 ∧ w.cell? ⟨b, 5, none⟩ = some v5 := ⟨(blk_cell h 0).trans rfl, (blk_cell h 1).trans rfl, (blk_cell h 2).trans rfl, (blk_cell h 3).trans rfl, (blk_cell h 4).trans rfl, (blk_cell h 5).trans rfl⟩
end Go.Proofs.Ytadaopfcgpfiiaa
namespace Go.Proofs.Ytadaopfcgpfiiaa
open Go.RowKit Go.Proofs.YtadaopfcgpfiiaaW.PrintWords Go.Proofs.YtadaopfcgpfiiaaW.PrintLast Go.Proofs.YtadaopfcgpfiiaaW.PrintMore PCg
set_option linter.unusedVariables false
set_option linter.unusedSimpArgs false
def kTwo : Kd (Int × Int) := Kd.pair (Kd.int .i64) (Kd.int .i64)
theorem kTwo_open {w : World} {x : Int × Int} {cs : List Value} (h : kTwo.K w x cs) : cs = [.int .i64 x.1, .int .i64 x.2] := by
  obtain ⟨_, _, rfl, rfl, rfl⟩ := h
  exact rfl
theorem kTwo_mk (w : World) (x : Int × Int) : kTwo.K w x [.int .i64 x.1, .int .i64 x.2] := ⟨[.int .i64 x.1], [.int .i64 x.2], rfl, rfl, rfl⟩
theorem kTwo_mkM (w : World) (base : Nat) (ok : Nat → Prop) (x : Int × Int) : kTwo.M w base ok x [.int .i64 x.1, .int .i64 x.2] := ⟨[.int .i64 x.1], [.int .i64 x.2], rfl, rfl, rfl⟩
def rdTwo (xs : List (Int × Int)) (i : Int) : Int × Int := xs.getD i.toNat (0, 0)
theorem atTwo {w : World} {A : Option Addr} {n : Nat} {xs : List (Int × Int)} (h : Kd.C kTwo w A n xs) (i : Int) (h0 : 0 ≤ i) (h1 : i < n) :
    ∃ ad, A = some ad ∧ w.cell? (ad.add (i.toNat * 2)) = some (.int .i64 (rdTwo xs i).1) ∧ w.cell? ⟨(ad.add (i.toNat * 2)).block, (ad.add (i.toNat * 2)).off + 1, none⟩ = some (.int .i64 (rdTwo xs i).2) := by
  obtain ⟨ad, c, e, _, hK, hc0⟩ := Kd.C_get h (0, 0) i h0 h1
  have hc : ∀ j u, c[j]? = some u → w.cell? (ad.add (i.toNat * 2 + j)) = some u := hc0
  obtain rfl := kTwo_open hK
  exact ⟨ad, e, hc 0 _ rfl, by rw [← add_field _ _ 1 (by omega)]; exact hc 1 _ rfl⟩
theorem infoPatch : (Try.prog.info? 94).map (fun i => (i.zero, i.size, i.bytes)) = some (some (.agg #[(.int .i64 0), (.int .i64 0)]), 2, 16) := by kernel_rfl
theorem infoRef : (Try.prog.info? 105).map (fun i => (i.zero, i.size, i.bytes)) = some (some (.agg #[(.int .i64 0), (.string ⟨#[]⟩), (.bool false)]), 3, 32) := by kernel_rfl
/-- what of a generator stays: name, size of the data, the function's parts, the places, the map of addresses, the first spill slot -/
structure GEnv where
  name : ByteArray
  data : Int
  fname : ByteArray
  regs : Int
  av : Value
  bv : Value
  pv : Value
  slots : Int
  mb : Nat
  spill : Int
/-- what grows -/
structure GSt where
  code : List S53
  refs : List S105
  starts : List Int
  patches : List (Int × Int)
def gcells (E : GEnv) (vc vr vs vp : Value) : Array Value :=
  #[.string E.name, vc, .int .i64 E.data, vr, .string E.fname, .int .i64 E.regs, E.av, E.bv, E.pv, .int .i64 E.slots, .map (some E.mb), .int .i64 E.spill, vs, vp]
/-- the generator lies at block g; its rows' blocks are from B on and among O -/
def Gen (w : World) (B g : Nat) (O : Nat → Prop) (E : GEnv) (st : GSt) : Prop :=
  ∃ vc vr vs vp : Value, w.heap[g]? = some (.cells (gcells E vc vr vs vp) 90 (0, 0)) ∧ B ≤ g ∧ B ≤ w.heap.size ∧ (∀ k, O k → k < w.heap.size) ∧
    Kd.R k53 53 w B O vc st.code ∧ Kd.R k105 105 w B O vr st.refs ∧ Kd.R (Kd.int .i64) 3 w B O vs st.starts ∧ Kd.R kTwo 94 w B O vp st.patches
section
variable {w w' : World} {B g : Nat} {O O' : Nat → Prop} {E : GEnv} {st : GSt}
theorem Gen.lt (h : Gen w B g O E st) : g < w.heap.size := by
  obtain ⟨vc, vr, vs, vp, hb, _⟩ := h
  exact blk_lt hb
/-- whatever keeps the generator's blocks keeps it -/
theorem Gen.kept {S : Nat → Prop} (h : Gen w B g O E st) (hk : Kept w w' S) (hg : ¬ S g) (hO : ∀ k, O k → ¬ S k) : Gen w' B g O E st := by
  obtain ⟨vc, vr, vs, vp, hb, h1, h2, h3, r1, r2, r3, r4⟩ := h
  exact ⟨vc, vr, vs, vp, blk_kept hb hk hg, h1, Nat.le_trans h2 hk.1, fun k hO' => Nat.lt_of_lt_of_le (h3 k hO') hk.1, Kd.R_kept r1 hk hO, Kd.R_kept r2 hk hO, Kd.R_kept r3 hk hO, Kd.R_kept r4 hk hO⟩
theorem Gen.below (h : Gen w B g O E st) (hb : Below w.heap.size w w') : Gen w' B g O E st := h.kept (Kept.of_below hb (fun _ => False)) (fun h => h) (fun _ _ h => h)
end
/-- what a method of the generator keeps: all but the generator's blocks; and it leaves the rest of the world alone -/
def GKept (B g : Nat) (O : Nat → Prop) (w w' : World) : Prop := Kept w w' (fun k => k = g ∨ O k) ∧ Below B w w'
section
variable {w w1 w2 : World} {B g : Nat} {O : Nat → Prop}
theorem GKept.refl (B g : Nat) (O : Nat → Prop) (w : World) : GKept B g O w w := ⟨Kept.refl w _, Below.refl B w⟩
/-- two calls: the second's own blocks are the first's, or new -/
theorem GKept.trans {O' : Nat → Prop} (h : GKept B g O w w1) (k : GKept B g O' w1 w2) (hO : ∀ k, O' k → O k ∨ w.heap.size ≤ k) : GKept B g O w w2 :=
  ⟨h.1.then_ k.1 (fun i hi => by
    rcases hi with hi | hi
    · exact .inl (.inl hi)
    · rcases hO i hi with h' | h'
      · exact .inl (.inr h')
      · exact .inr h'), h.2.trans k.2⟩
theorem GKept.below (h : GKept B g O w w1) (hB : B ≤ w1.heap.size) (k : Below w1.heap.size w1 w2) : GKept B g O w w2 := ⟨h.1.below k, h.2.trans (k.mono hB)⟩
theorem GKept.pre (hB : B ≤ w.heap.size) (h : Below w.heap.size w w1) (k : GKept B g O w1 w2) : GKept B g O w w2 :=
  ⟨(Kept.of_below h (fun k => k = g ∨ O k)).then_ k.1 (fun i hi => .inl hi), (h.mono hB).trans k.2⟩
/-- a block of one's own that is none of the generator's -/
theorem GKept.blk {b : Nat} {o : Obj} (h : GKept B g O w w1) (hb : w.heap[b]? = some o) (hg : b ≠ g) (hO : ¬ O b) : w1.heap[b]? = some o :=
  blk_kept hb h.1 (fun h => h.elim hg hO)
end
end Go.Proofs.Ytadaopfcgpfiiaa
namespace Go.Proofs.Ytadaopfcgpfiiaa
open Go.RowKit Go.Proofs.YtadaopfcgpfiiaaW.PrintWords Go.Proofs.YtadaopfcgpfiiaaW.PrintLast Go.Proofs.YtadaopfcgpfiiaaW.PrintMore PCg
set_option linter.unusedVariables false
set_option linter.unusedSimpArgs false
def GSt.emit (st : GSt) (l : List S53) : GSt := { st with code := st.code ++ l }
/-- what a method leaves: the generator with the state st', all else kept -/
def GPost (B g : Nat) (O : Nat → Prop) (E : GEnv) (w : World) (st' : GSt) (w' : World) : Prop :=
  ∃ O' : Nat → Prop, Gen w' B g O' E st' ∧ (∀ k, O' k → O k ∨ w.heap.size ≤ k) ∧ GKept B g O w w'
/-- two methods in a row -/
theorem GPost.trans {B g : Nat} {O O1 : Nat → Prop} {E : GEnv} {w w1 w2 : World} {st2 : GSt} (h : GKept B g O w w1) (hO : ∀ k, O1 k → O k ∨ w.heap.size ≤ k) (k : GPost B g O1 E w1 st2 w2) : GPost B g O E w st2 w2 := by
  obtain ⟨O2, hG, hO2, hk⟩ := k
  refine ⟨O2, hG, fun i hi => ?_, h.trans hk hO⟩
  rcases hO2 i hi with h' | h'
  · exact hO i h'
  · exact .inr (Nat.le_trans h.1.1 h')
/-- what only makes, ahead of a method -/
theorem GPost.pre {B g : Nat} {O : Nat → Prop} {E : GEnv} {w w1 w2 : World} {st2 : GSt} (hB : B ≤ w.heap.size) (h : Below w.heap.size w w1) (k : GPost B g O E w1 st2 w2) : GPost B g O E w st2 w2 := by
  obtain ⟨O2, hG, hO2, hk⟩ := k
  refine ⟨O2, hG, fun i hi => ?_, GKept.pre hB h hk⟩
  rcases hO2 i hi with h' | h'
  · exact .inl h'
  · exact .inr (Nat.le_trans h.size h')
/-- what only makes, behind a method -/
theorem GPost.below {B g : Nat} {O : Nat → Prop} {E : GEnv} {w w1 w2 : World} {st : GSt} (h : GPost B g O E w st w1) (k : Below w1.heap.size w1 w2) : GPost B g O E w st w2 := by
  obtain ⟨O2, hG, hO2, hk⟩ := h
  refine ⟨O2, hG.below k, hO2, hk.below ?_ k⟩
  obtain ⟨_, _, _, _, _, _, hw, _⟩ := hG
  exact hw
theorem GPost.same {B g : Nat} {O : Nat → Prop} {E : GEnv} {w : World} {st : GSt} (h : Gen w B g O E st) : GPost B g O E w st w := ⟨O, h, fun _ h => .inl h, GKept.refl _ _ _ _⟩
theorem gpost_cell11 {B g : Nat} {O : Nat → Prop} {E : GEnv} {w w1 : World} {st : GSt} (h : GPost B g O E w st w1) : w1.cell? ⟨g, 11, none⟩ = some (.int .i64 E.spill) := by
  obtain ⟨O2, ⟨vc, vr, vs, vp, hb, _⟩, _⟩ := h
  exact (blk_cell hb 11).trans rfl
theorem gpost_cell10 {B g : Nat} {O : Nat → Prop} {E : GEnv} {w w1 : World} {st : GSt} (h : GPost B g O E w st w1) : w1.cell? ⟨g, 10, none⟩ = some (.map (some E.mb)) := by
  obtain ⟨O2, ⟨vc, vr, vs, vp, hb, _⟩, _⟩ := h
  exact (blk_cell hb 10).trans rfl
theorem gpost_blk {B g b : Nat} {O : Nat → Prop} {E : GEnv} {w w1 : World} {st : GSt} {o : Obj} (h : GPost B g O E w st w1) (hb : w.heap[b]? = some o) (hg : b ≠ g) (hO : ¬ O b) : w1.heap[b]? = some o := by
  obtain ⟨O2, _, _, hk⟩ := h
  exact hk.blk hb hg hO
theorem gpost_size {B g : Nat} {O : Nat → Prop} {E : GEnv} {w w1 : World} {st : GSt} (h : GPost B g O E w st w1) : w.heap.size ≤ w1.heap.size := by
  obtain ⟨O2, _, _, hk⟩ := h
  exact hk.1.1
theorem gpost_below {B g : Nat} {O : Nat → Prop} {E : GEnv} {w w1 : World} {st : GSt} (h : GPost B g O E w st w1) : Below B w w1 := by
  obtain ⟨O2, _, _, hk⟩ := h
  exact hk.2
theorem gput_code {W w1 : World} {B g : Nat} {O : Nat → Prop} {E : GEnv} {st : GSt} {vc vr vs vp v1 : Value} {xs : List S53} (hb : W.heap[g]? = some (.cells (gcells E vc vr vs vp) 90 (0, 0))) (hBg : B ≤ g) (hBw : B ≤ W.heap.size) (hO : ∀ k, O k → k < W.heap.size)
    (r1 : Kd.R k53 53 W B O vc st.code) (r2 : Kd.R k105 105 W B O vr st.refs) (r3 : Kd.R (Kd.int .i64) 3 W B O vs st.starts) (r4 : Kd.R kTwo 94 W B O vp st.patches) (hg1 : W.grownBy w1 vc.ownBlock) (hB1 : Below B W w1) (hN : Kd.R k53 53 w1 B (fun k => O k ∨ W.heap.size ≤ k) v1 xs) :
    GPost B g O E W { st with code := xs } (w1.setCell ⟨g, 1, none⟩ v1) := by
  have hne : some g ≠ vc.ownBlock := Kd.R_ne r1 hb (by decide)
  have hb1 := blk_grown hb hg1 hne
  have hlt := blk_lt hb
  have hk : Kept W (w1.setCell ⟨g, 1, none⟩ v1) (fun k => k = g ∨ O k) :=
    Kept.setCell (Kept.of_grown hg1 (Kept.refl W _) (fun k hk => .inl (.inr (r1.1 k hk)))) (.inl (.inl rfl)) v1
  refine ⟨fun k => (O k ∨ W.heap.size ≤ k) ∧ k < w1.heap.size, ⟨v1, vr, vs, vp, ?_, hBg, by simpa [World.setCell] using Nat.le_trans hBw hg1.size, fun k h => by simpa [World.setCell] using h.2, Kd.R_set (Kd.R_mono (Kd.R_bound hN) (fun k h => ⟨h.1, h.2.2.1⟩)) hb1 (by decide) 1 v1, Kd.R_set (Kd.R_mono (Kd.R_over r2 r1 (by decide) hg1) (fun k h => ⟨.inl h, Nat.lt_of_lt_of_le (hO k h) hg1.size⟩)) hb1 (by decide) 1 v1, Kd.R_set (Kd.R_mono (Kd.R_over r3 r1 (by decide) hg1) (fun k h => ⟨.inl h, Nat.lt_of_lt_of_le (hO k h) hg1.size⟩)) hb1 (by decide) 1 v1, Kd.R_set (Kd.R_mono (Kd.R_over r4 r1 (by decide) hg1) (fun k h => ⟨.inl h, Nat.lt_of_lt_of_le (hO k h) hg1.size⟩)) hb1 (by decide) 1 v1⟩, fun k h => h.1, hk, hB1.setCell (p := ⟨g, 1, none⟩) hBg v1⟩
  exact (blk_set hb1 1 v1).trans rfl
theorem gput_refs {W w1 : World} {B g : Nat} {O : Nat → Prop} {E : GEnv} {st : GSt} {vc vr vs vp v1 : Value} {xs : List S105} (hb : W.heap[g]? = some (.cells (gcells E vc vr vs vp) 90 (0, 0))) (hBg : B ≤ g) (hBw : B ≤ W.heap.size) (hO : ∀ k, O k → k < W.heap.size)
    (r1 : Kd.R k53 53 W B O vc st.code) (r2 : Kd.R k105 105 W B O vr st.refs) (r3 : Kd.R (Kd.int .i64) 3 W B O vs st.starts) (r4 : Kd.R kTwo 94 W B O vp st.patches) (hg1 : W.grownBy w1 vr.ownBlock) (hB1 : Below B W w1) (hN : Kd.R k105 105 w1 B (fun k => O k ∨ W.heap.size ≤ k) v1 xs) :
    GPost B g O E W { st with refs := xs } (w1.setCell ⟨g, 3, none⟩ v1) := by
  have hne : some g ≠ vr.ownBlock := Kd.R_ne r2 hb (by decide)
  have hb1 := blk_grown hb hg1 hne
  have hlt := blk_lt hb
  have hk : Kept W (w1.setCell ⟨g, 3, none⟩ v1) (fun k => k = g ∨ O k) :=
    Kept.setCell (Kept.of_grown hg1 (Kept.refl W _) (fun k hk => .inl (.inr (r2.1 k hk)))) (.inl (.inl rfl)) v1
  refine ⟨fun k => (O k ∨ W.heap.size ≤ k) ∧ k < w1.heap.size, ⟨vc, v1, vs, vp, ?_, hBg, by simpa [World.setCell] using Nat.le_trans hBw hg1.size, fun k h => by simpa [World.setCell] using h.2, Kd.R_set (Kd.R_mono (Kd.R_over r1 r2 (by decide) hg1) (fun k h => ⟨.inl h, Nat.lt_of_lt_of_le (hO k h) hg1.size⟩)) hb1 (by decide) 3 v1, Kd.R_set (Kd.R_mono (Kd.R_bound hN) (fun k h => ⟨h.1, h.2.2.1⟩)) hb1 (by decide) 3 v1, Kd.R_set (Kd.R_mono (Kd.R_over r3 r2 (by decide) hg1) (fun k h => ⟨.inl h, Nat.lt_of_lt_of_le (hO k h) hg1.size⟩)) hb1 (by decide) 3 v1, Kd.R_set (Kd.R_mono (Kd.R_over r4 r2 (by decide) hg1) (fun k h => ⟨.inl h, Nat.lt_of_lt_of_le (hO k h) hg1.size⟩)) hb1 (by decide) 3 v1⟩, fun k h => h.1, hk, hB1.setCell (p := ⟨g, 3, none⟩) hBg v1⟩
  exact (blk_set hb1 3 v1).trans rfl
theorem gput_starts {W w1 : World} {B g : Nat} {O : Nat → Prop} {E : GEnv} {st : GSt} {vc vr vs vp v1 : Value} {xs : List Int} (hb : W.heap[g]? = some (.cells (gcells E vc vr vs vp) 90 (0, 0))) (hBg : B ≤ g) (hBw : B ≤ W.heap.size) (hO : ∀ k, O k → k < W.heap.size)
    (r1 : Kd.R k53 53 W B O vc st.code) (r2 : Kd.R k105 105 W B O vr st.refs) (r3 : Kd.R (Kd.int .i64) 3 W B O vs st.starts) (r4 : Kd.R kTwo 94 W B O vp st.patches) (hg1 : W.grownBy w1 vs.ownBlock) (hB1 : Below B W w1) (hN : Kd.R (Kd.int .i64) 3 w1 B (fun k => O k ∨ W.heap.size ≤ k) v1 xs) :
    GPost B g O E W { st with starts := xs } (w1.setCell ⟨g, 12, none⟩ v1) := by
  have hne : some g ≠ vs.ownBlock := Kd.R_ne r3 hb (by decide)
  have hb1 := blk_grown hb hg1 hne
  have hlt := blk_lt hb
  have hk : Kept W (w1.setCell ⟨g, 12, none⟩ v1) (fun k => k = g ∨ O k) :=
    Kept.setCell (Kept.of_grown hg1 (Kept.refl W _) (fun k hk => .inl (.inr (r3.1 k hk)))) (.inl (.inl rfl)) v1
  refine ⟨fun k => (O k ∨ W.heap.size ≤ k) ∧ k < w1.heap.size, ⟨vc, vr, v1, vp, ?_, hBg, by simpa [World.setCell] using Nat.le_trans hBw hg1.size, fun k h => by simpa [World.setCell] using h.2, Kd.R_set (Kd.R_mono (Kd.R_over r1 r3 (by decide) hg1) (fun k h => ⟨.inl h, Nat.lt_of_lt_of_le (hO k h) hg1.size⟩)) hb1 (by decide) 12 v1, Kd.R_set (Kd.R_mono (Kd.R_over r2 r3 (by decide) hg1) (fun k h => ⟨.inl h, Nat.lt_of_lt_of_le (hO k h) hg1.size⟩)) hb1 (by decide) 12 v1, Kd.R_set (Kd.R_mono (Kd.R_bound hN) (fun k h => ⟨h.1, h.2.2.1⟩)) hb1 (by decide) 12 v1, Kd.R_set (Kd.R_mono (Kd.R_over r4 r3 (by decide) hg1) (fun k h => ⟨.inl h, Nat.lt_of_lt_of_le (hO k h) hg1.size⟩)) hb1 (by decide) 12 v1⟩, fun k h => h.1, hk, hB1.setCell (p := ⟨g, 12, none⟩) hBg v1⟩
  exact (blk_set hb1 12 v1).trans rfl
theorem gput_patches {W w1 : World} {B g : Nat} {O : Nat → Prop} {E : GEnv} {st : GSt} {vc vr vs vp v1 : Value} {xs : List (Int × Int)} (hb : W.heap[g]? = some (.cells (gcells E vc vr vs vp) 90 (0, 0))) (hBg : B ≤ g) (hBw : B ≤ W.heap.size) (hO : ∀ k, O k → k < W.heap.size)
    (r1 : Kd.R k53 53 W B O vc st.code) (r2 : Kd.R k105 105 W B O vr st.refs) (r3 : Kd.R (Kd.int .i64) 3 W B O vs st.starts) (r4 : Kd.R kTwo 94 W B O vp st.patches) (hg1 : W.grownBy w1 vp.ownBlock) (hB1 : Below B W w1) (hN : Kd.R kTwo 94 w1 B (fun k => O k ∨ W.heap.size ≤ k) v1 xs) :
    GPost B g O E W { st with patches := xs } (w1.setCell ⟨g, 13, none⟩ v1) := by
  have hne : some g ≠ vp.ownBlock := Kd.R_ne r4 hb (by decide)
  have hb1 := blk_grown hb hg1 hne
  have hlt := blk_lt hb
  have hk : Kept W (w1.setCell ⟨g, 13, none⟩ v1) (fun k => k = g ∨ O k) :=
    Kept.setCell (Kept.of_grown hg1 (Kept.refl W _) (fun k hk => .inl (.inr (r4.1 k hk)))) (.inl (.inl rfl)) v1
  refine ⟨fun k => (O k ∨ W.heap.size ≤ k) ∧ k < w1.heap.size, ⟨vc, vr, vs, v1, ?_, hBg, by simpa [World.setCell] using Nat.le_trans hBw hg1.size, fun k h => by simpa [World.setCell] using h.2, Kd.R_set (Kd.R_mono (Kd.R_over r1 r4 (by decide) hg1) (fun k h => ⟨.inl h, Nat.lt_of_lt_of_le (hO k h) hg1.size⟩)) hb1 (by decide) 13 v1, Kd.R_set (Kd.R_mono (Kd.R_over r2 r4 (by decide) hg1) (fun k h => ⟨.inl h, Nat.lt_of_lt_of_le (hO k h) hg1.size⟩)) hb1 (by decide) 13 v1, Kd.R_set (Kd.R_mono (Kd.R_over r3 r4 (by decide) hg1) (fun k h => ⟨.inl h, Nat.lt_of_lt_of_le (hO k h) hg1.size⟩)) hb1 (by decide) 13 v1, Kd.R_set (Kd.R_mono (Kd.R_bound hN) (fun k h => ⟨h.1, h.2.2.1⟩)) hb1 (by decide) 13 v1⟩, fun k h => h.1, hk, hB1.setCell (p := ⟨g, 13, none⟩) hBg v1⟩
  exact (blk_set hb1 13 v1).trans rfl
set_option maxRecDepth 100000 in
set_option maxHeartbeats 1000000 in
theorem emit_any (B g : Nat) (O : Nat → Prop) (E : GEnv) (st : GSt) (A : Option Addr) (c : Nat) (l : List S53) (w : World)
    (hG : Gen w B g O E st) (hr : Kd.C k53 w A l.length l) (hcp : l.length ≤ c) (hsz : st.code.length + l.length ≤ 1000000) :
    Calls Try.prog 29 #[.pointer (some ⟨g, 0, none⟩), .slice A l.length c] w fun e w' => e = .returned (.tuple #[]) ∧ GPost B g O E w (st.emit l) w' := by
  obtain ⟨vc, vr, vs, vp, hb, hBg, hBw, hO, r1, r2, r3, r4⟩ := hG
  have HO := Aside0.mk hO; clear hO
  have HB := Aside0.mk hb
  have c1 : w.cell? ⟨g, 1, none⟩ = some vc := (blk_cell hb 1).trans rfl
  have hlt := blk_lt hb
  have hne : some g ≠ vc.ownBlock := Kd.R_ne r1 hb (by decide)
  have HR1 := Aside0.mk r1; have HR2 := Aside0.mk r2; have HR3 := Aside0.mk r3; have HR4 := Aside0.mk r4; have HR := Aside0.mk hr
  clear r1 r2 r3 r4 hr hb
  obtain ⟨xs, hxs⟩ : ∃ xs : List S53, st.code ++ l = xs := ⟨_, rfl⟩
  have HX := Aside0.mk hxs; clear hxs
  go_enter Try.func29, Try.ntmps29
  go_wp2_with (at_builtin; refine Kd.R_append_rows k53 (Rr := k53.K w) (w0 := w) B rfl (.tmp 9) (.tmp 10) 28 53 _ 40 rfl Try.underlying28 info53 rfl (by decide) (by decide) vc st.code l A l.length c (fun k => O k ∨ w.heap.size ≤ k) (fun _ => False) rfl rfl ?aO HR.out ?aK (fun _ h => h.elim) (fun _ hk => .inr hk) (Below.refl _ _) hBw ?aL ?_; (case aO => exact Kd.R_mono HR1.out (fun _ h => .inl h)); (case aK => intro x cs hx; obtain rfl := k53_open hx; exact k53_mkM _ _ _ x); (case aL => omega); intro v1 w1 hR1 hB1 hg1 hat1; rw [HX.out] at hR1; have HN1 := Aside0.mk hR1; have HB1 := Aside0.mk hB1; have HG1 := Aside0.mk hg1; have hb1 := blk_grown HB.out hg1 hne; have c1' : w1.cell? ⟨g, 1, none⟩ = some vc := (blk_cell hb1 1).trans rfl; have f1' : w1.frozen? ⟨g, 1, none⟩ = false := blk_frozen hb1 1; have hlt1 := blk_lt hb1; clear hR1 hB1 hg1 hat1 hb1 c1; obtain ⟨A1, cc1, hv1⟩ := Kd.R_slice HN1.out; subst hv1)
  go_end0
  have h := gput_code HB.out hBg hBw HO.out HR1.out HR2.out HR3.out HR4.out HG1.out HB1.out HN1.out
  rw [← HX.out] at h
  rw [← HX.out]
  exact ⟨rfl, h⟩
end Go.Proofs.Ytadaopfcgpfiiaa
namespace Go.Proofs.Ytadaopfcgpfiiaa
open Go.RowKit Go.Proofs.YtadaopfcgpfiiaaW.PrintWords Go.Proofs.YtadaopfcgpfiiaaW.PrintLast Go.Proofs.YtadaopfcgpfiiaaW.PrintMore PCg
set_option linter.unusedVariables false
set_option linter.unusedSimpArgs false
/-- the register in which a virtual register with a place is found, and the instruction that loads it there -/
def useReg (p : Int × Int) (into : Int) : Int := if p.2 < 0 then p.1 else into
def useCode (spill : Int) (p : Int × Int) (into : Int) : List S53 := if p.2 < 0 then [] else [⟨18, into, 0, 0, spill + p.2⟩]
theorem useCode_len (spill : Int) (p : Int × Int) (into : Int) : (useCode spill p into).length ≤ 1 := by unfold useCode; split <;> simp
/-- a slice of one instruction, in its box -/
theorem one_instr {W : World} {b t : Nat} {i : S53} (h : W.heap[b]? = some (.cells #[.int .u8 i.f0, .int .i64 i.f1, .int .i64 i.f2, .int .i64 i.f3, .int .i64 i.f4] t (0, 0))) : Kd.C k53 W (some ⟨b, 0, none⟩) 1 [i] := by
  refine ⟨rfl, by omega, fun _ => ⟨⟨b, 0, none⟩, rfl, fun j p hj => ?_⟩⟩
  match j, hj with
  | 0, hj =>
    have hp : i = p := by simpa using hj
    subst hp
    refine ⟨[.int .u8 i.f0, .int .i64 i.f1, .int .i64 i.f2, .int .i64 i.f3, .int .i64 i.f4], rfl, k53_mk W i, fun q u hu => ?_⟩
    have ha : (⟨b, 0, none⟩ : Addr).add (0 * k53.sz + q) = ⟨b, q, none⟩ := by rw [Nat.zero_mul, Nat.zero_add]; exact add_plain b q
    rw [ha, blk_cell h q]
    simpa using hu
  | j + 1, hj => simp at hj
/-- emit of one instruction, in its box -/
theorem emit1_any (B g : Nat) (O : Nat → Prop) (E : GEnv) (st : GSt) (b t : Nat) (op a bb cc imm : Int) (w : World)
    (hG : Gen w B g O E st) (hb : w.heap[b]? = some (.cells #[.int .u8 op, .int .i64 a, .int .i64 bb, .int .i64 cc, .int .i64 imm] t (0, 0))) (hsz : st.code.length + 1 ≤ 1000000) :
    Calls Try.prog 29 #[.pointer (some ⟨g, 0, none⟩), .slice (some ⟨b, 0, none⟩) 1 1] w fun e w' => e = .returned (.tuple #[]) ∧ GPost B g O E w (st.emit [⟨op, a, bb, cc, imm⟩]) w' :=
  emit_any B g O E st _ 1 [⟨op, a, bb, cc, imm⟩] w hG (one_instr hb) (Nat.le_refl _) hsz
set_option maxRecDepth 100000 in
set_option maxHeartbeats 1000000 in
theorem use_any (w0 : World) (g : Nat) (O : Nat → Prop) (E : GEnv) (st : GSt) (Ap : Option Addr) (cp : Nat) (places : List (Int × Int)) (v into : Int) (w : World)
    (hG : Gen w w0.heap.size g O E st) (hB : Below w0.heap.size w0 w) (hP : Kd.C kTwo w0 Ap places.length places) (hpv : E.pv = .slice Ap places.length cp)
    (v0 : 0 ≤ v) (v1 : v < places.length) (s0 : 0 ≤ E.spill) (s1 : E.spill ≤ 1000000) (p1 : (rdTwo places v).2 ≤ 1000000) (hsz : st.code.length + 1 ≤ 1000000) :
    Calls Try.prog 51 #[.pointer (some ⟨g, 0, none⟩), .int .i64 v, .int .i64 into] w
      fun e w' => e = .returned (.int .i64 (useReg (rdTwo places v) into)) ∧ GPost w0.heap.size g O E w (st.emit (useCode E.spill (rdTwo places v) into)) w' := by
  have HG := Aside0.mk hG
  obtain ⟨vc, vr, vs, vp, hb, hBg, hBw, hO, -⟩ := hG
  have HO := Aside0.mk hO; clear hO
  have c8 : w.cell? ⟨g, 8, none⟩ = some (.slice Ap places.length cp) := (blk_cell hb 8).trans (by rw [← hpv]; rfl)
  have c11 : w.cell? ⟨g, 11, none⟩ = some (.int .i64 E.spill) := (blk_cell hb 11).trans rfl
  have hlt := blk_lt hb
  have HBk := Aside0.mk hb
  obtain ⟨ad, hA, q0, q1⟩ := atTwo hP v v0 v1
  cases hA
  replace q0 := (hB.cell (World.block_lt_of_cell? w0 _ q0)).trans q0
  replace q1 := (hB.cell (World.block_lt_of_cell? w0 _ q1)).trans q1
  have HB := Aside0.mk hB
  have HPV := Aside0.mk hpv
  clear hP hB hb hpv
  have p110 := eq_true v0
  have q110 := eq_true v1
  have hu := Try.underlying131
  have hu2 := Try.underlying90
  generalize rdTwo places v = p at *
  by_cases hs : p.2 < 0
  · go_enter Try.func51, Try.ntmps51
    go_wp2
    go_ret
    refine ⟨reti (by simp [useReg, hs]), ?_⟩
    have he : st.emit (useCode E.spill p into) = st := by simp [useCode, hs, GSt.emit]
    rw [he]
    exact (GPost.same HG.out).below (below_alloc (Below.refl _ _) _)
  · go_enter Try.func51, Try.ntmps51
    go_wp2_with fail
    have HG6 := Aside0.mk (HG.out.below (below_alloc (Below.refl _ _) (.cells #[.int .i64 p.1, .int .i64 p.2] 131)))
    have BP6 := blk_new w (.cells #[.int .i64 p.1, .int .i64 p.2] 131)
    have c11' : (w.alloc (.cells #[.int .i64 p.1, .int .i64 p.2] 131)).cell? ⟨g, 11, none⟩ = some (.int .i64 E.spill) := by rw [World.cell?_alloc_lt w _ ⟨g, 11, none⟩ hlt]; exact c11
    obtain ⟨b0, b1⟩ := blk2 BP6
    have hy1 := blk_lt BP6
    have hlt6 : g < (w.alloc (.cells #[.int .i64 p.1, .int .i64 p.2] 131)).heap.size := by simp; omega
    have HBP := Aside0.mk BP6
    have HW6 : Aside0 (Below w.heap.size w (w.alloc (.cells #[.int .i64 p.1, .int .i64 p.2] 131))) := ⟨below_alloc (Below.refl _ _) _⟩
    clear BP6 q0 q1 c8 c11 HBk
    generalize w.alloc (.cells #[.int .i64 p.1, .int .i64 p.2] 131) = w6 at *
    have hne : w.heap.size ≠ g := by omega
    have hnO : ¬ O w.heap.size := fun h => by have := HO.out _ h; omega
    have q0 : 0 ≤ p.2 := by omega
    have hw : IntKind.i64.wrap (E.spill + p.2) = E.spill + p.2 := IntWalk.i64_in _ (by omega)
    go_region_held3 (fun W => W.cell? ⟨g, 11, none⟩ = some (.int .i64 E.spill) ∧ W.cell? ⟨w.heap.size, 1, none⟩ = some (.int .i64 p.2))
      (first
        | go_keep
        | exact ⟨gpost_cell11 hq.out, (blk_cell (gpost_blk hq.out (blk_drew (blk_alloc HBP.out _)) hne hnO) 1).trans rfl⟩)
      (first
        | (go_at_call 29
           refine (emit1_any w0.heap.size g O E st _ 53 18 into 0 0 (E.spill + p.2) _ (Gen.below HG6.out ?_) ?_ hsz).mono ?_
           (exact below_drew (below_alloc (Below.refl _ _) _))
           (exact blk_drew (blk_new _ _))
           rintro e w9 ⟨rfl, hq9⟩
           have hq := Aside0.mk hq9; clear hq9))
    go_wp2
    go_ret
    refine ⟨reti (by rw [useReg, if_neg (by omega)]), ?_⟩
    rw [show useCode E.spill p into = [⟨18, into, 0, 0, E.spill + p.2⟩] from by rw [useCode, if_neg (by omega)]]
    exact GPost.pre hBw (below_step HW6.out (below_drew (below_alloc (Below.refl _ _) _))) hq.out
set_option maxRecDepth 100000 in
set_option maxHeartbeats 400000 in
theorem define1_any (w : World) : Calls Try.prog 112 #[] w fun e w' => e = .returned (.tuple #[]) ∧ w = w' := by
  go_enter Try.func112, Try.ntmps112
  go_wp2
  go_end0
  exact ⟨rfl, rfl⟩
/-- the store of a spilled result -/
def storeCode (spill : Int) (p : Int × Int) : List S53 := if p.2 < 0 then [] else [⟨19, 14, 0, 0, spill + p.2⟩]
theorem storeCode_len (spill : Int) (p : Int × Int) : (storeCode spill p).length ≤ 1 := by unfold storeCode; split <;> simp
set_option maxRecDepth 100000 in
set_option maxHeartbeats 1000000 in
theorem define2_any (B g b2 b6 : Nat) (O : Nat → Prop) (E : GEnv) (st : GSt) (p : Int × Int) (w : World)
    (hG : Gen w B g O E st) (h2 : w.heap[b2]? = some (.cells #[.pointer (some ⟨g, 0, none⟩)] 86 (0, 0))) (h6 : w.heap[b6]? = some (.cells #[.int .i64 p.1, .int .i64 p.2] 131 (0, 0)))
    (n2 : b2 ≠ g) (o2 : ¬ O b2) (n6 : b6 ≠ g) (o6 : ¬ O b6)
    (s0 : 0 ≤ E.spill) (s1 : E.spill ≤ 1000000) (q0 : 0 ≤ p.2) (p1 : p.2 ≤ 1000000) (hsz : st.code.length + 1 ≤ 1000000) :
    Calls Try.prog 113 #[.pointer (some ⟨b2, 0, none⟩), .pointer (some ⟨b6, 0, none⟩)] w
      fun e w' => e = .returned (.tuple #[]) ∧ GPost B g O E w (st.emit [⟨19, 14, 0, 0, E.spill + p.2⟩]) w' := by
  have HG := Aside0.mk hG
  obtain ⟨vc, vr, vs, vp, hb, hBg, hBw, hO, -⟩ := hG
  have c11 : w.cell? ⟨g, 11, none⟩ = some (.int .i64 E.spill) := (blk_cell hb 11).trans rfl
  have hlt := blk_lt hb
  have e0 := blk1 h2
  have hlt2 := blk_lt h2
  obtain ⟨b0, b1⟩ := blk2 h6
  have hlt6 := blk_lt h6
  have H2 := Aside0.mk h2; have H6 := Aside0.mk h6
  clear hb h2 h6 hO
  have hu2 := Try.underlying90
  have hu3 := Try.underlying131
  have hw : IntKind.i64.wrap (E.spill + p.2) = E.spill + p.2 := IntWalk.i64_in _ (by omega)
  go_enter Try.func113, Try.ntmps113
  go_region_held3 (fun W => W.cell? ⟨g, 11, none⟩ = some (.int .i64 E.spill) ∧ W.cell? ⟨b6, 1, none⟩ = some (.int .i64 p.2) ∧ W.cell? ⟨b2, 0, none⟩ = some (.pointer (some ⟨g, 0, none⟩)))
    (first
      | go_keep
      | exact ⟨gpost_cell11 hq.out, (blk_cell (gpost_blk hq.out (blk_drew (blk_alloc H6.out _)) n6 o6) 1).trans rfl, (blk_cell (gpost_blk hq.out (blk_drew (blk_alloc H2.out _)) n2 o2) 0).trans rfl⟩)
    (first
      | (go_at_call 29
         refine (emit1_any B g O E st _ 53 19 14 0 0 (E.spill + p.2) _ (Gen.below HG.out ?_) ?_ hsz).mono ?_
         (exact below_drew (below_alloc (Below.refl _ _) _))
         (exact blk_drew (blk_new _ _))
         rintro e w9 ⟨rfl, hq9⟩
         have hq := Aside0.mk hq9; clear hq9))
  go_wp2
  go_end0
  exact ⟨rfl, GPost.pre hBw (below_drew (below_alloc (Below.refl _ _) _)) hq.out⟩
set_option maxRecDepth 100000 in
set_option maxHeartbeats 1000000 in
/-- define: the register of the result; the function that stores it -/
theorem define_any (w0 : World) (g : Nat) (O : Nat → Prop) (E : GEnv) (st : GSt) (Ap : Option Addr) (cp : Nat) (places : List (Int × Int)) (v : Int) (w : World)
    (hG : Gen w w0.heap.size g O E st) (hB : Below w0.heap.size w0 w) (hP : Kd.C kTwo w0 Ap places.length places) (hpv : E.pv = .slice Ap places.length cp)
    (v0 : 0 ≤ v) (v1 : v < places.length) :
    Calls Try.prog 97 #[.pointer (some ⟨g, 0, none⟩), .int .i64 v] w
      fun e w' => Below w.heap.size w w' ∧ w'.heap[w.heap.size]? = some (.cells #[.pointer (some ⟨g, 0, none⟩)] 86 (0, 0)) ∧
        w'.heap[w.heap.size + 1]? = some (.cells #[.int .i64 (rdTwo places v).1, .int .i64 (rdTwo places v).2] 131 (0, 0)) ∧
        e = .returned (.tuple #[.int .i64 (useReg (rdTwo places v) 14), if (rdTwo places v).2 < 0 then .func (.func 112) #[] #[] else .func (.func 113) #[] #[.pointer (some ⟨w.heap.size, 0, none⟩), .pointer (some ⟨w.heap.size + 1, 0, none⟩)]]) := by
  obtain ⟨vc, vr, vs, vp, hb, hBg, hBw, hO, -⟩ := hG
  have c8 : w.cell? ⟨g, 8, none⟩ = some (.slice Ap places.length cp) := (blk_cell hb 8).trans (by rw [← hpv]; rfl)
  have hlt := blk_lt hb
  obtain ⟨ad, hA, q0, q1⟩ := atTwo hP v v0 v1
  cases hA
  replace q0 := (hB.cell (World.block_lt_of_cell? w0 _ q0)).trans q0
  replace q1 := (hB.cell (World.block_lt_of_cell? w0 _ q1)).trans q1
  have hlq := World.block_lt_of_cell? w _ q0
  clear hP hB hb hpv hO
  have p110 := eq_true v0
  have q110 := eq_true v1
  have hu := Try.underlying131
  have hu2 := Try.underlying90
  generalize rdTwo places v = p at *
  have hfin : ∀ W, W = (w.alloc (.cells #[.pointer (some ⟨g, 0, none⟩)] 86)).alloc (.cells #[.int .i64 p.1, .int .i64 p.2] 131) → Below w.heap.size w W ∧ W.heap[w.heap.size]? = some (.cells #[.pointer (some ⟨g, 0, none⟩)] 86 (0, 0)) ∧ W.heap[w.heap.size + 1]? = some (.cells #[.int .i64 p.1, .int .i64 p.2] 131 (0, 0)) := by
    rintro W rfl
    exact ⟨((Below.refl _ _).alloc (Nat.le_refl _) _).alloc (by simp) _, blk_alloc (blk_new _ _) _, heap_alloc_at _ _ _ (by simp)⟩
  have HF := Aside0.mk hfin
  clear hfin
  by_cases hs : p.2 < 0
  · go_enter Try.func97, Try.ntmps97
    go_wp2
    go_ret2
    obtain ⟨f1, f2, f3⟩ := HF.out _ rfl
    exact ⟨f1, f2, f3, by simp [useReg, hs]⟩
  · go_enter Try.func97, Try.ntmps97
    go_wp2
    go_ret2
    obtain ⟨f1, f2, f3⟩ := HF.out _ rfl
    refine ⟨f1, f2, f3, ?_⟩
    have hs' : ¬ p.2 < 0 := by omega
    simp [useReg, hs']
end Go.Proofs.Ytadaopfcgpfiiaa
namespace Go.Proofs.Ytadaopfcgpfiiaa
open Go.RowKit Go.Proofs.YtadaopfcgpfiiaaW.PrintWords Go.Proofs.YtadaopfcgpfiiaaW.PrintLast Go.Proofs.YtadaopfcgpfiiaaW.PrintMore PCg
set_option linter.unusedVariables false
set_option linter.unusedSimpArgs false
/-- whether an opcode accesses a shared object; whether it uses its lock -/
def isRef (op : Int) : Bool := op == 20 || op == 21 || op == 28 || op == 29
def isLock (op : Int) : Bool := op == 28 || op == 29
set_option maxHeartbeats 400000 in
theorem reference_any (op : Int) (w : World) :
    Calls Try.prog 38 #[.int .u8 op] w fun e w' => e = .returned (.tuple #[.bool (isRef op), .bool (isLock op)]) ∧ w = w' := by
  go_enter Try.func38, Try.ntmps38
  go_wp2
  all_goals (go_ret2; refine ⟨?_, rfl⟩; simp_all [isRef, isLock])
  all_goals omega
theorem one_ref {W : World} {b t : Nat} {i : S105} (h : W.heap[b]? = some (.cells #[.int .i64 i.f0, .string i.f1, .bool i.f2] t (0, 0))) : Kd.C k105 W (some ⟨b, 0, none⟩) 1 [i] := by
  refine ⟨rfl, by omega, fun _ => ⟨⟨b, 0, none⟩, rfl, fun j p hj => ?_⟩⟩
  match j, hj with
  | 0, hj =>
    have hp : i = p := by simpa using hj
    subst hp
    refine ⟨[.int .i64 i.f0, .string i.f1, .bool i.f2], rfl, k105_mk W i, fun q u hu => ?_⟩
    have ha : (⟨b, 0, none⟩ : Addr).add (0 * k105.sz + q) = ⟨b, q, none⟩ := by rw [Nat.zero_mul, Nat.zero_add]; exact add_plain b q
    rw [ha, blk_cell h q]
    simpa using hu
  | j + 1, hj => simp at hj
set_option maxRecDepth 100000 in
set_option maxHeartbeats 2000000 in
theorem shared_any (B g : Nat) (O : Nat → Prop) (E : GEnv) (st : GSt) (i : S53) (nm : ByteArray) (w : World)
    (hG : Gen w B g O E st) (hsz : st.code.length + 1 ≤ 1000000) (hrz : st.refs.length + 1 ≤ 1000000) :
    Calls Try.prog 76 #[.pointer (some ⟨g, 0, none⟩), .agg #[.int .u8 i.f0, .int .i64 i.f1, .int .i64 i.f2, .int .i64 i.f3, .int .i64 i.f4], .string nm] w
      fun e w' => e = .returned (.tuple #[]) ∧ GPost B g O E w { st with code := st.code ++ [i], refs := st.refs ++ [⟨st.code.length, nm, isLock i.f0⟩] } w' := by
  obtain ⟨W, hW⟩ : ∃ W, w.alloc (.cells #[.int .u8 i.f0, .int .i64 i.f1, .int .i64 i.f2, .int .i64 i.f3, .int .i64 i.f4] 53) = W := ⟨_, rfl⟩
  have hBw : Below w.heap.size w W := by rw [← hW]; exact below_alloc (Below.refl _ _) _
  have hb4 : W.heap[w.heap.size]? = some (.cells #[.int .u8 i.f0, .int .i64 i.f1, .int .i64 i.f2, .int .i64 i.f3, .int .i64 i.f4] 53 (0, 0)) := by rw [← hW]; exact blk_new _ _
  have HGW := Aside0.mk (hG.below hBw)
  have hg0 := hG.lt
  have HO0 : Aside0 (¬ O w.heap.size) := ⟨fun h => by obtain ⟨_, _, _, _, _, _, _, hO, _⟩ := hG; have := hO _ h; omega⟩
  have HBB : Aside0 (B ≤ w.heap.size) := ⟨by obtain ⟨_, _, _, _, _, _, h, _⟩ := hG; exact h⟩
  clear hG
  obtain ⟨vc, vr, vs, vp, hb, hBg, hBW, hO, r1, r2, r3, r4⟩ := HGW.out
  have c1 : W.cell? ⟨g, 1, none⟩ = some vc := (blk_cell hb 1).trans rfl
  have c3 : W.cell? ⟨g, 3, none⟩ = some vr := (blk_cell hb 3).trans rfl
  have f3 : W.frozen? ⟨g, 3, none⟩ = false := blk_frozen hb 3
  have hlt := blk_lt hb
  have hne : some g ≠ vr.ownBlock := Kd.R_ne r2 hb (by decide)
  obtain ⟨Ac, cc, hvc⟩ := Kd.R_slice r1
  obtain ⟨Ar, cr, hvr⟩ := Kd.R_slice r2
  subst hvc hvr
  obtain ⟨i0, i1, i2, i3, i4⟩ := blk5 hb4
  have hl4 := blk_lt hb4
  have HB := Aside0.mk hb; have HO := Aside0.mk hO; have HR1 := Aside0.mk r1; have HR2 := Aside0.mk r2; have HR3 := Aside0.mk r3; have HR4 := Aside0.mk r4; have H4 := Aside0.mk hb4; have HBw := Aside0.mk hBw
  clear hb hO r1 r2 r3 r4 hb4 hBw
  have hu := Try.underlying53
  have hu2 := Try.underlying90
  have hu3 := Try.underlying31
  go_enter Try.func76, Try.ntmps76
  go_wp2_with (first | (go_at_call 38; refine (reference_any _ _).mono ?_; rintro e w' ⟨rfl, rfl⟩))
  obtain ⟨W7, hW7⟩ : ∃ W7, (W.alloc (.cells #[.int .i64 st.code.length, .string nm, .bool (isLock i.f0)] 105)).drew = W7 := ⟨_, rfl⟩
  have HB7 : Aside0 (Below W.heap.size W W7) := ⟨by rw [← hW7]; exact below_drew (below_alloc (Below.refl _ _) _)⟩
  have HR7 : Aside0 (Kd.C k105 W7 (some ⟨W.heap.size, 0, none⟩) 1 [(⟨st.code.length, nm, isLock i.f0⟩ : S105)]) := ⟨by rw [← hW7]; exact one_ref (blk_drew (blk_new _ _))⟩
  have hB7 := Nat.le_trans hBW HB7.out.size
  have HO7 := Aside0.mk (Kd.R_mono (ok' := fun k => O k ∨ W7.heap.size ≤ k) (Kd.R_below HR2.out HB7.out) (fun _ h => .inl h))
  have HG7 := Aside0.mk (Gen.below HGW.out HB7.out)
  have hb7 := blk_below HB.out HB7.out
  have d1 : W7.cell? ⟨g, 1, none⟩ = some (.slice Ac st.code.length cc) := (blk_cell hb7 1).trans rfl
  have d3 : W7.cell? ⟨g, 3, none⟩ = some (.slice Ar st.refs.length cr) := (blk_cell hb7 3).trans rfl
  have e3 : W7.frozen? ⟨g, 3, none⟩ = false := blk_frozen hb7 3
  have hlt7 := blk_lt hb7
  have HBk7 := Aside0.mk hb7
  clear hb7
  go_region_law ((refine Kd.R_append_rows_step k105 (Rr := k105.K W7) (w0 := W7) (W := W7) B rfl (.tmp 19) (.tmp 29) 29 105 _ 32 rfl Try.underlying29 infoRef rfl (by decide) (by decide) (.slice Ar st.refs.length cr) st.refs [(⟨st.code.length, nm, isLock i.f0⟩ : S105)] (some ⟨W.heap.size, 0, none⟩) 1 1 (fun k => O k ∨ W7.heap.size ≤ k) (fun _ => False) rfl rfl HO7.out HR7.out ?_ (fun _ h => h.elim) (fun _ hk => .inr hk) (Below.refl _ _) hB7 ?_ ?_
                  (intro x cs hx; obtain rfl := k105_open hx; exact k105_mkM _ _ _ x)
                  (omega)
                  intro v1 w1 hR1 hB1 hg1 hat1
                  have HN1 := Aside0.mk hR1
                  have HB1 := Aside0.mk hB1
                  have HG1 := Aside0.mk hg1
                  have hb1 := blk_grown HBk7.out hg1 hne
                  have c3' : w1.cell? ⟨g, 3, none⟩ = some (.slice Ar st.refs.length cr) := (blk_cell hb1 3).trans rfl
                  have f3' : w1.frozen? ⟨g, 3, none⟩ = false := blk_frozen hb1 3
                  have hlt1 := blk_lt hb1
                  clear hR1 hB1 hg1 hat1 hb1
                  obtain ⟨A1, cc1, hv1⟩ := Kd.R_slice HN1.out
                  subst hv1))
  all_goals go_ways
  all_goals (
    have hp8 := GPost.pre hBW HB7.out (gput_refs HBk7.out hBg hB7 (fun k hk => Nat.lt_of_lt_of_le (HO.out k hk) HB7.out.size) (Kd.R_below HR1.out HB7.out) (Kd.R_below HR2.out HB7.out) (Kd.R_below HR3.out HB7.out) (Kd.R_below HR4.out HB7.out) HG1.out HB1.out HN1.out)
    rw [show (st.refs ++ [(⟨st.code.length, nm, isLock i.f0⟩ : S105)]).length = st.refs.length + 1 from by simp] at hp8
    have hb8 := gpost_blk hp8 H4.out (by omega) HO0.out
    obtain ⟨O8, hG8, hO8, hk8⟩ := hp8
    clear HR7 HO7 HG7 HB1 HN1 HG1 c1 c3 f3 c3' f3' d1 d3 e3
    generalize w1.setCell ⟨g, 3, none⟩ (.slice A1 (st.refs.length + 1) cc1) = W8 at *
    obtain ⟨i0, i1, i2, i3, i4⟩ := blk5 hb8
    have hl8 := blk_lt hb8
    have HG8 := Aside0.mk hG8; have HO8 := Aside0.mk hO8; have HK8 := Aside0.mk hk8
    clear hb8 hG8 hO8 hk8
    go_wp2_with (first
      | (go_at_call 29
         refine (emit1_any B g O8 E { st with refs := st.refs ++ [⟨st.code.length, nm, isLock i.f0⟩] } _ 53 i.f0 i.f1 i.f2 i.f3 i.f4 _ (Gen.below HG8.out ?_) ?_ hsz).mono ?_
         (exact below_alloc (Below.refl _ _) _)
         (exact blk_new _ _)
         rintro e w9 ⟨rfl, hq9⟩
         have hq := Aside0.mk hq9; clear hq9))
    go_end0
    refine ⟨rfl, ?_⟩
    exact GPost.pre HBB.out HBw.out (GPost.trans HK8.out HO8.out (GPost.pre (Nat.le_trans HBB.out (Nat.le_trans HBw.out.size HK8.out.1.1)) (below_alloc (Below.refl _ _) _) hq.out)))
theorem one_patch {W : World} {b t : Nat} {i : Int × Int} (h : W.heap[b]? = some (.cells #[.int .i64 i.1, .int .i64 i.2] t (0, 0))) : Kd.C kTwo W (some ⟨b, 0, none⟩) 1 [i] := by
  refine ⟨rfl, by omega, fun _ => ⟨⟨b, 0, none⟩, rfl, fun j p hj => ?_⟩⟩
  match j, hj with
  | 0, hj =>
    have hp : i = p := by simpa using hj
    subst hp
    refine ⟨[.int .i64 i.1, .int .i64 i.2], rfl, kTwo_mk W i, fun q u hu => ?_⟩
    have ha : (⟨b, 0, none⟩ : Addr).add (0 * kTwo.sz + q) = ⟨b, q, none⟩ := by rw [Nat.zero_mul, Nat.zero_add]; exact add_plain b q
    rw [ha, blk_cell h q]
    simpa using hu
  | j + 1, hj => simp at hj
set_option maxRecDepth 100000 in
set_option maxHeartbeats 2000000 in
theorem jump_any (B g : Nat) (O : Nat → Prop) (E : GEnv) (st : GSt) (i : S53) (blk : Int) (w : World)
    (hG : Gen w B g O E st) (hsz : st.code.length + 1 ≤ 1000000) (hrz : st.patches.length + 1 ≤ 1000000) :
    Calls Try.prog 50 #[.pointer (some ⟨g, 0, none⟩), .agg #[.int .u8 i.f0, .int .i64 i.f1, .int .i64 i.f2, .int .i64 i.f3, .int .i64 i.f4], .int .i64 blk] w
      fun e w' => e = .returned (.tuple #[]) ∧ GPost B g O E w { st with code := st.code ++ [i], patches := st.patches ++ [((st.code.length : Int), blk)] } w' := by
  obtain ⟨W, hW⟩ : ∃ W, w.alloc (.cells #[.int .u8 i.f0, .int .i64 i.f1, .int .i64 i.f2, .int .i64 i.f3, .int .i64 i.f4] 53) = W := ⟨_, rfl⟩
  have hBw : Below w.heap.size w W := by rw [← hW]; exact below_alloc (Below.refl _ _) _
  have hb4 : W.heap[w.heap.size]? = some (.cells #[.int .u8 i.f0, .int .i64 i.f1, .int .i64 i.f2, .int .i64 i.f3, .int .i64 i.f4] 53 (0, 0)) := by rw [← hW]; exact blk_new _ _
  have HGW := Aside0.mk (hG.below hBw)
  have hg0 := hG.lt
  have HO0 : Aside0 (¬ O w.heap.size) := ⟨fun h => by obtain ⟨_, _, _, _, _, _, _, hO, _⟩ := hG; have := hO _ h; omega⟩
  have HBB : Aside0 (B ≤ w.heap.size) := ⟨by obtain ⟨_, _, _, _, _, _, h, _⟩ := hG; exact h⟩
  clear hG
  obtain ⟨vc, vr, vs, vp, hb, hBg, hBW, hO, r1, r2, r3, r4⟩ := HGW.out
  have c1 : W.cell? ⟨g, 1, none⟩ = some vc := (blk_cell hb 1).trans rfl
  have c3 : W.cell? ⟨g, 13, none⟩ = some vp := (blk_cell hb 13).trans rfl
  have f3 : W.frozen? ⟨g, 13, none⟩ = false := blk_frozen hb 13
  have hlt := blk_lt hb
  have hne : some g ≠ vp.ownBlock := Kd.R_ne r4 hb (by decide)
  obtain ⟨Ac, cc, hvc⟩ := Kd.R_slice r1
  obtain ⟨Ar, cr, hvp⟩ := Kd.R_slice r4
  subst hvc hvp
  obtain ⟨i0, i1, i2, i3, i4⟩ := blk5 hb4
  have hl4 := blk_lt hb4
  have HB := Aside0.mk hb; have HO := Aside0.mk hO; have HR1 := Aside0.mk r1; have HR2 := Aside0.mk r2; have HR3 := Aside0.mk r3; have HR4 := Aside0.mk r4; have H4 := Aside0.mk hb4; have HBw := Aside0.mk hBw
  clear hb hO r1 r2 r3 r4 hb4 hBw
  have hu := Try.underlying53
  have hu2 := Try.underlying90
  have hu3 := Try.underlying31
  go_enter Try.func50, Try.ntmps50
  go_wp2_with fail
  obtain ⟨W7, hW7⟩ : ∃ W7, (W.alloc (.cells #[.int .i64 st.code.length, .int .i64 blk] 94)).drew = W7 := ⟨_, rfl⟩
  have HB7 : Aside0 (Below W.heap.size W W7) := ⟨by rw [← hW7]; exact below_drew (below_alloc (Below.refl _ _) _)⟩
  have HR7 : Aside0 (Kd.C kTwo W7 (some ⟨W.heap.size, 0, none⟩) 1 [((st.code.length : Int), blk)]) := ⟨by rw [← hW7]; exact one_patch (blk_drew (blk_new _ _))⟩
  have hB7 := Nat.le_trans hBW HB7.out.size
  have HO7 := Aside0.mk (Kd.R_mono (ok' := fun k => O k ∨ W7.heap.size ≤ k) (Kd.R_below HR4.out HB7.out) (fun _ h => .inl h))
  have HG7 := Aside0.mk (Gen.below HGW.out HB7.out)
  have hb7 := blk_below HB.out HB7.out
  have d1 : W7.cell? ⟨g, 1, none⟩ = some (.slice Ac st.code.length cc) := (blk_cell hb7 1).trans rfl
  have d3 : W7.cell? ⟨g, 13, none⟩ = some (.slice Ar st.patches.length cr) := (blk_cell hb7 13).trans rfl
  have e3 : W7.frozen? ⟨g, 13, none⟩ = false := blk_frozen hb7 13
  have hlt7 := blk_lt hb7
  have HBk7 := Aside0.mk hb7
  clear hb7
  go_region_law ((refine Kd.R_append_rows_step kTwo (Rr := kTwo.K W7) (w0 := W7) (W := W7) B rfl (.tmp 10) (.tmp 19) 88 94 _ 16 rfl Try.underlying88 infoPatch rfl (by decide) (by decide) (.slice Ar st.patches.length cr) st.patches [((st.code.length : Int), blk)] (some ⟨W.heap.size, 0, none⟩) 1 1 (fun k => O k ∨ W7.heap.size ≤ k) (fun _ => False) rfl rfl HO7.out HR7.out ?_ (fun _ h => h.elim) (fun _ hk => .inr hk) (Below.refl _ _) hB7 ?_ ?_
                  (intro x cs hx; obtain rfl := kTwo_open hx; exact kTwo_mkM _ _ _ x)
                  (omega)
                  intro v1 w1 hR1 hB1 hg1 hat1
                  have HN1 := Aside0.mk hR1
                  have HB1 := Aside0.mk hB1
                  have HG1 := Aside0.mk hg1
                  have hb1 := blk_grown HBk7.out hg1 hne
                  have c3' : w1.cell? ⟨g, 13, none⟩ = some (.slice Ar st.patches.length cr) := (blk_cell hb1 13).trans rfl
                  have f3' : w1.frozen? ⟨g, 13, none⟩ = false := blk_frozen hb1 13
                  have hlt1 := blk_lt hb1
                  clear hR1 hB1 hg1 hat1 hb1
                  obtain ⟨A1, cc1, hv1⟩ := Kd.R_slice HN1.out
                  subst hv1))
  all_goals go_ways
  all_goals (
    have hp8 := GPost.pre hBW HB7.out (gput_patches HBk7.out hBg hB7 (fun k hk => Nat.lt_of_lt_of_le (HO.out k hk) HB7.out.size) (Kd.R_below HR1.out HB7.out) (Kd.R_below HR2.out HB7.out) (Kd.R_below HR3.out HB7.out) (Kd.R_below HR4.out HB7.out) HG1.out HB1.out HN1.out)
    rw [show (st.patches ++ [((st.code.length : Int), blk)]).length = st.patches.length + 1 from by simp] at hp8
    have hb8 := gpost_blk hp8 H4.out (by omega) HO0.out
    obtain ⟨O8, hG8, hO8, hk8⟩ := hp8
    clear HR7 HO7 HG7 HB1 HN1 HG1 c1 c3 f3 c3' f3' d1 d3 e3
    generalize w1.setCell ⟨g, 13, none⟩ (.slice A1 (st.patches.length + 1) cc1) = W8 at *
    obtain ⟨i0, i1, i2, i3, i4⟩ := blk5 hb8
    have hl8 := blk_lt hb8
    have HG8 := Aside0.mk hG8; have HO8 := Aside0.mk hO8; have HK8 := Aside0.mk hk8
    clear hb8 hG8 hO8 hk8
    go_wp2_with (first
      | (go_at_call 29
         refine (emit1_any B g O8 E { st with patches := st.patches ++ [((st.code.length : Int), blk)] } _ 53 i.f0 i.f1 i.f2 i.f3 i.f4 _ (Gen.below HG8.out ?_) ?_ hsz).mono ?_
         (exact below_alloc (Below.refl _ _) _)
         (exact blk_new _ _)
         rintro e w9 ⟨rfl, hq9⟩
         have hq := Aside0.mk hq9; clear hq9))
    go_end0
    refine ⟨rfl, ?_⟩
    exact GPost.pre HBB.out HBw.out (GPost.trans HK8.out HO8.out (GPost.pre (Nat.le_trans HBB.out (Nat.le_trans HBw.out.size HK8.out.1.1)) (below_alloc (Below.refl _ _) _) hq.out)))
end Go.Proofs.Ytadaopfcgpfiiaa
namespace Go.Proofs.Ytadaopfcgpfiiaa
open Go.RowKit Go.Proofs.YtadaopfcgpfiiaaW.PrintWords Go.Proofs.YtadaopfcgpfiiaaW.PrintLast Go.Proofs.YtadaopfcgpfiiaaW.PrintMore PCg
set_option linter.unusedVariables false
set_option linter.unusedSimpArgs false
theorem emit_emit (st : GSt) (a b : List S53) : (st.emit a).emit b = st.emit (a ++ b) := by simp [GSt.emit]
theorem emit_nil (st : GSt) : st.emit [] = st := by simp [GSt.emit]
/-- the boxes of binary: the generator's pointer, the function that emits, the register of the result; the generator with them -/
def BinW (B g : Nat) (O : Nat → Prop) (E : GEnv) (b1 bf bd : Nat) (d : Int) (w0 : World) (st : GSt) (w : World) : Prop :=
  GPost B g O E w0 st w ∧ w.heap[b1]? = some (.cells #[.pointer (some ⟨g, 0, none⟩)] 86 (0, 0)) ∧ w.heap[bf]? = some (.cells #[.func (.func 114) #[] #[.pointer (some ⟨b1, 0, none⟩)]] 195 (0, 0)) ∧ w.heap[bd]? = some (.cells #[.int .i64 d] 3 (0, 0)) ∧
    (b1 ≠ g ∧ ¬ O b1 ∧ b1 < w0.heap.size) ∧ (bf ≠ g ∧ ¬ O bf ∧ bf < w0.heap.size) ∧ (bd ≠ g ∧ ¬ O bd ∧ bd < w0.heap.size)
theorem BinW.step {B g : Nat} {O : Nat → Prop} {E : GEnv} {b1 bf bd : Nat} {d : Int} {w0 w w1 : World} {st st1 : GSt} (h : BinW B g O E b1 bf bd d w0 st w) {O1 : Nat → Prop} (hO1 : ∀ k, O1 k → O k ∨ w0.heap.size ≤ k) (hk : GKept B g O w0 w) (h1 : GPost B g O1 E w st1 w1) : BinW B g O E b1 bf bd d w0 st1 w1 := by
  obtain ⟨_, q1, qf, qd, n1, nf, nd⟩ := h
  have hn : ∀ b, (b ≠ g ∧ ¬ O b ∧ b < w0.heap.size) → ¬ O1 b := fun b hb ho => by
    rcases hO1 b ho with h' | h'
    · exact hb.2.1 h'
    · omega
  exact ⟨GPost.trans hk hO1 h1, gpost_blk h1 q1 n1.1 (hn _ n1), gpost_blk h1 qf nf.1 (hn _ nf), gpost_blk h1 qd nd.1 (hn _ nd), n1, nf, nd⟩
theorem BinW.cells {B g : Nat} {O : Nat → Prop} {E : GEnv} {b1 bf bd : Nat} {d : Int} {w0 w : World} {st : GSt} (h : BinW B g O E b1 bf bd d w0 st w) :
    w.cell? ⟨bf, 0, none⟩ = some (.func (.func 114) #[] #[.pointer (some ⟨b1, 0, none⟩)]) ∧ w.cell? ⟨bd, 0, none⟩ = some (.int .i64 d) := ⟨blk1 h.2.2.1, blk1 h.2.2.2.1⟩
set_option maxRecDepth 100000 in
set_option maxHeartbeats 1000000 in
theorem binary1_any (B g : Nat) (O : Nat → Prop) (E : GEnv) (b1 bf bd : Nat) (d : Int) (w0 : World) (st : GSt) (op a b c : Int) (w : World)
    (hW : BinW B g O E b1 bf bd d w0 st w) (hsz : st.code.length + 1 ≤ 1000000) :
    Calls Try.prog 114 #[.int .u8 op, .int .i64 a, .int .i64 b, .int .i64 c, .pointer (some ⟨b1, 0, none⟩)] w
      fun e w' => e = .returned (.tuple #[]) ∧ BinW B g O E b1 bf bd d w0 (st.emit [⟨op, a, b, c, 0⟩]) w' := by
  have HW := Aside0.mk hW
  obtain ⟨⟨O1, hG, hO1, hk⟩, h1, -⟩ := hW
  have HG := Aside0.mk hG; have HO1 := Aside0.mk hO1; have HK := Aside0.mk hk
  have hBw : B ≤ w.heap.size := by obtain ⟨_, _, _, _, _, _, h, _⟩ := hG; exact h
  have c1 := blk1 h1
  have hlt1 := blk_lt h1
  clear hG hO1 hk h1
  go_enter Try.func114, Try.ntmps114
  go_wp2_with (first
    | (go_at_call 29
       refine (emit1_any B g O1 E st _ 53 op a b c 0 _ (Gen.below HG.out ?_) ?_ hsz).mono ?_
       (exact below_alloc (Below.refl _ _) _)
       (exact blk_new _ _)
       rintro e w9 ⟨rfl, hq9⟩
       have hq := Aside0.mk hq9; clear hq9))
  go_end0
  exact ⟨rfl, HW.out.step HO1.out HK.out (GPost.pre hBw (below_alloc (Below.refl _ _) _) hq.out)⟩
set_option maxRecDepth 100000 in
set_option maxHeartbeats 1000000 in
theorem binary2_any (B g : Nat) (O : Nat → Prop) (E : GEnv) (b1 bf bd : Nat) (d : Int) (w0 : World) (st : GSt) (a : Int) (w : World)
    (hW : BinW B g O E b1 bf bd d w0 st w) (hsz : st.code.length + 1 ≤ 1000000) :
    Calls Try.prog 115 #[.int .i64 a, .pointer (some ⟨bf, 0, none⟩), .pointer (some ⟨bd, 0, none⟩)] w
      fun e w' => e = .returned (.tuple #[]) ∧ BinW B g O E b1 bf bd d w0 (st.emit [⟨12, d, a, 0, 0⟩]) w' := by
  have HW := Aside0.mk hW
  obtain ⟨cf, cd⟩ := hW.cells
  have hltf := blk_lt hW.2.2.1
  have hltd := blk_lt hW.2.2.2.1
  clear hW
  go_enter Try.func115, Try.ntmps115
  go_wp2_with (first
    | (go_at_call 114
       refine (binary1_any B g O E b1 bf bd d w0 st 12 d a 0 _ HW.out hsz).mono ?_
       rintro e w9 ⟨rfl, hq9⟩
       have hq := Aside0.mk hq9; clear hq9))
  go_end0
  exact ⟨rfl, hq.out⟩
/-- the code of a binary operator -/
def binCode (op d x y : Int) : List S53 :=
  if op = 16 then [⟨12, d, x, y, 0⟩]
  else if op = 17 then [⟨12, 1, x, y, 0⟩, ⟨12, d, 1, 0, 0⟩]
  else if op = 18 then [⟨13, d, x, y, 0⟩]
  else if op = 20 then [⟨13, d, y, x, 0⟩]
  else if op = 19 then [⟨13, 1, y, x, 0⟩, ⟨12, d, 1, 0, 0⟩]
  else if op = 21 then [⟨13, 1, x, y, 0⟩, ⟨12, d, 1, 0, 0⟩]
  else if op = 22 then [⟨12, 1, x, 0, 0⟩, ⟨12, 15, y, 0, 0⟩, ⟨8, 1, 1, 15, 0⟩, ⟨12, d, 1, 0, 0⟩]
  else if op = 23 then [⟨8, 1, x, y, 0⟩, ⟨12, 1, 1, 0, 0⟩, ⟨12, d, 1, 0, 0⟩]
  else [⟨op - 4, d, x, y, 0⟩]
theorem binCode_len (op d x y : Int) : (binCode op d x y).length ≤ 4 := by unfold binCode; (repeat' split) <;> simp
theorem gpost_code {B g : Nat} {O : Nat → Prop} {E : GEnv} {w w1 : World} {st st' : GSt} (h : GPost B g O E w st' w1) (e : st = st') : GPost B g O E w st w1 := e ▸ h
set_option maxRecDepth 100000 in
set_option maxHeartbeats 2000000 in
theorem binary_any (B g : Nat) (O : Nat → Prop) (E : GEnv) (st : GSt) (op d x y : Int) (w : World)
    (hG : Gen w B g O E st) (o0 : 6 ≤ op) (o1 : op ≤ 23) (hsz : st.code.length + 4 ≤ 1000000) :
    Calls Try.prog 98 #[.pointer (some ⟨g, 0, none⟩), .int .u8 op, .int .i64 d, .int .i64 x, .int .i64 y] w
      fun e w' => e = .returned (.tuple #[]) ∧ GPost B g O E w (st.emit (binCode op d x y)) w' := by
  have hg0 := hG.lt
  have hn : ∀ k, w.heap.size ≤ k → ¬ O k := fun k hk ho => by obtain ⟨_, _, _, _, _, _, _, hO, _⟩ := hG; have := hO _ ho; omega
  have hBw : B ≤ w.heap.size := by obtain ⟨_, _, _, _, _, _, h, _⟩ := hG; exact h
  have HG := Aside0.mk hG; have HN := Aside0.mk hn
  clear hG hn
  have h3 : ∀ W3, W3 = ((w.alloc (.cells #[.pointer (some ⟨g, 0, none⟩)] 86)).alloc (.cells #[.int .i64 d] 3)).alloc (.cells #[.func (.func 114) #[] #[.pointer (some ⟨w.heap.size, 0, none⟩)]] 195) →
      BinW B g O E w.heap.size (w.heap.size + 1 + 1) (w.heap.size + 1) d W3 st W3 ∧ Below w.heap.size w W3 := by
    intro W3 hW3
    have hB3 : Below w.heap.size w W3 := by rw [hW3]; exact below_alloc (below_alloc (below_alloc (Below.refl _ _) _) _) _
    have h1 : W3.heap[w.heap.size]? = some (.cells #[.pointer (some ⟨g, 0, none⟩)] 86 (0, 0)) := by rw [hW3]; exact blk_alloc (blk_alloc (blk_new _ _) _) _
    have hd : W3.heap[w.heap.size + 1]? = some (.cells #[.int .i64 d] 3 (0, 0)) := by rw [hW3]; exact blk_alloc (heap_alloc_at _ _ _ (by simp)) _
    have hf : W3.heap[w.heap.size + 1 + 1]? = some (.cells #[.func (.func 114) #[] #[.pointer (some ⟨w.heap.size, 0, none⟩)]] 195 (0, 0)) := by rw [hW3]; exact heap_alloc_at _ _ _ (by simp)
    exact ⟨⟨GPost.same (HG.out.below hB3), h1, hf, hd, ⟨by omega, HN.out _ (by omega), blk_lt h1⟩, ⟨by omega, HN.out _ (by omega), blk_lt hf⟩, ⟨by omega, HN.out _ (by omega), blk_lt hd⟩⟩, hB3⟩
  have hw1 : IntKind.u8.wrap (2 + op) = 2 + op := IntWalk.u8_in _ (by omega)
  have hw2 : IntKind.u8.wrap (2 + op - 6) = op - 4 := by rw [IntWalk.u8_in _ (by omega)]; omega
  go_enter Try.func98, Try.ntmps98
  go_wp2_with fail
  all_goals (
    have hq := Aside0.mk (h3 _ rfl).1
    have hb3 := Aside0.mk (h3 _ rfl).2
    go_wp2_with (first
      | (go_at_call 114
         refine (binary1_any B g O E _ _ _ d _ _ _ _ _ _ _ hq.out ?_).mono ?_
         (try simp only [GSt.emit, List.length_append, List.length_cons, List.length_nil]); omega
         rintro e w9 ⟨rfl, hq9⟩
         obtain ⟨cf, cd⟩ := hq9.cells
         have hltf := blk_lt hq9.2.2.1
         have hltd := blk_lt hq9.2.2.2.1
         have hq := Aside0.mk hq9; clear hq9)
      | (go_at_call 115
         refine (binary2_any B g O E _ _ _ d _ _ _ _ hq.out ?_).mono ?_
         (try simp only [GSt.emit, List.length_append, List.length_cons, List.length_nil]); omega
         rintro e w9 ⟨rfl, hq9⟩
         obtain ⟨cf, cd⟩ := hq9.cells
         have hltf := blk_lt hq9.2.2.1
         have hltd := blk_lt hq9.2.2.2.1
         have hq := Aside0.mk hq9; clear hq9))
    go_end0
    refine ⟨rfl, gpost_code (GPost.pre hBw hb3.out hq.out.1) ?_⟩
    simp_all [binCode, GSt.emit])
end Go.Proofs.Ytadaopfcgpfiiaa
