/- Lemmas, part 22: what the theorem of the last text needs, joined by a program out of the seat's texts H2, H3, F0, F1, F2, F3, F4, F5, F6, F7. -/
import Derived.Test.YtadaopfcgpfiiaaCLayoutX21
import Derived.Test.YtadaopfcgpfiiaaCLayoutX19
import Derived.RangeFuncNested
import Derived.RangeFuncLeaves
import Derived.WalkKit
import Derived.OwnWalkIn
import Derived.TacticsInMore
import Derived.LoopNIn
import Derived.LoopIn
import Derived.MapKept
import Derived.Laws.IdiomRangeMap
import Derived.StillTailTactics
import Derived.Maps.OwnSet
import Derived.Test.YtadaopfcgpfiiaaCLayoutX12
import Derived.Test.YtadaopfcgpfiiaaCLayoutX13
namespace Go.Proofs.Ytadaopfcgpfiiaa
open Go.RowKit Go.Proofs.YtadaopfcgpfiiaaW.PrintWords Go.Proofs.YtadaopfcgpfiiaaW.PrintLast Go.Proofs.YtadaopfcgpfiiaaW.PrintMore PCg
set_option linter.unusedVariables false
set_option linter.unusedSimpArgs false
attribute [local go_sem] Oper.semAt_some
def insV (i : S51) : Value := .agg #[.int .u8 i.f0, .int .i64 i.f1, .int .i64 i.f2, .int .i64 i.f3, .int .i64 i.f4, .string i.f5]
def encB (x : Int × S51) : Array Value := #[.int .i64 x.1, insV x.2]
/-- what has come when k rounds are over -/
def seqB (code : List S51) (k : Nat) : List (Int × S51) := (List.range k).map fun j : Nat => ((code.length : Int) - 1 - j, rd_T51 code ((code.length : Int) - 1 - j))
theorem seqB_succ (code : List S51) (k : Nat) : seqB code (k + 1) = seqB code k ++ [((code.length : Int) - 1 - k, rd_T51 code ((code.length : Int) - 1 - k))] := by simp [seqB, List.range_succ]
theorem seqB_length (code : List S51) (k : Nat) : (seqB code k).length = k := by simp [seqB]
theorem seqB_all (code : List S51) : (seqB code code.length).map (·.2) = code.reverse := by
  apply List.ext_getElem
  · simp [seqB]
  · intro i h1 h2
    have hi : i < code.length := by simpa [seqB] using h1
    simp only [seqB, List.getElem_map, List.getElem_range, List.getElem_reverse, rd_T51]
    rw [show ((code.length : Int) - 1 - (i : Int)).toNat = code.length - 1 - i by omega, List.getD_eq_getElem?_getD, List.getElem?_eq_getElem (by omega)]
    rfl
/-- what each round keeps: what came in, and the slice's box -/
def KB (B bx : Nat) (W W' : World) : Prop := Below B W W' ∧ W'.heap[bx]? = W.heap[bx]?
theorem KB.refl (B bx : Nat) (W : World) : KB B bx W W := ⟨Below.refl _ _, rfl⟩
theorem KB.trans {B bx : Nat} {W W1 W2 : World} (h : KB B bx W W1) (k : KB B bx W1 W2) : KB B bx W W2 := ⟨h.1.trans k.1, k.2.trans h.2⟩
theorem KB.putObj {B bx : Nat} {w : World} (hB : B ≤ w.heap.size) (hb : bx < w.heap.size) (W : World) (l : Nat) (o o' : Obj) (hl : w.heap.size ≤ l) (h : W.heap[l]? = some o) (_ : o.isCells = false) (_ : o.isWalk = false) : KB B bx W (W.putObj l o') :=
  ⟨belowK_b hB W l o o' hl h ‹_› ‹_›, World.putObj_heap_other (by omega)⟩
set_option maxRecDepth 100000 in
set_option maxHeartbeats 2000000 in
theorem back1_in (n l bx : Nat) (A : Option Addr) (c : Nat) (code : List S51) (w0 : World) (hn : 1 ≤ n) (hr : Kd.C k51 w0 A code.length code) (hcp : code.length ≤ c) (hm : code.length ≤ 1000000) (p : S51 → Prop) (hp : ∀ i ∈ code, p i) (J Jx : List (Int × S51) → World → Prop)
    (hY : ∀ pre x W, p x.2 → J pre W → pre.length < code.length → YieldAt Fence.wide (n - 1) Try.prog l (encB x) W fun e W' =>
      (e = .returned (.bool true) ∧ J (pre ++ [x]) W' ∧ KB w0.heap.size bx W W') ∨ (e = .returned (.bool false) ∧ Jx (pre ++ [x]) W'))
    (W : World) (hB : Below w0.heap.size w0 W) (hBs : W.heap[bx]? = some (.cells #[.slice A code.length c] 47 (0, 0))) (h0 : J [] W) :
    CallsIn Fence.wide n Try.prog 110 #[.func (.yield l) #[] #[], .pointer (some ⟨bx, 0, none⟩)] W fun e W' => (∃ v, e = .returned v) ∧
      ((∃ ys, ys = seqB code code.length ∧ J ys W') ∨ (∃ pre, (∃ k, k ≤ code.length ∧ pre = seqB code k) ∧ Jx pre W')) := by
  have HR := Aside0.mk hr; have HP := Aside0.mk hp; clear hr hp
  have HBS := Aside0.mk hBs
  have b0 := blk1 hBs
  clear hBs
  have hu := Try.underlying51
  refine callsIn_of_wp Try.func110 rfl trivial ?_ rfl
  simp only [Try.ntmps110, List.size_toArray, List.length_cons, List.length_nil, Nat.reduceAdd, Nat.reduceSub, Array.replicate_succ, Array.replicate_zero, List.push_toArray, List.append_toArray, List.nil_append, List.cons_append]
  gi_wp2
  gi_loopw [3] (fun i wr => ∃ k : Nat, k ≤ code.length ∧ i = .int .i64 ((code.length : Int) - 1 - k) ∧ Aside0 (J (seqB code k) wr) ∧ Aside0 (KB w0.heap.size bx W wr))
    (fun i _ => (intOf i + 1).toNat)
  case atStart => exact ⟨0, Nat.zero_le _, by simp, ⟨h0⟩, ⟨KB.refl _ _ _⟩⟩
  case round =>
    obtain ⟨k, hk, rfl, HJ, HK⟩ := hrel
    have hbs := HK.out.2.trans HBS.out
    have b1 := blk1 hbs
    clear hbs b0
    obtain ⟨x, hx⟩ : ∃ x : Int, (code.length : Int) - 1 - k = x := ⟨_, rfl⟩
    have HX := Aside0.mk hx
    have hx1 : x < code.length := by omega
    by_cases hlt : 0 ≤ x
    · obtain ⟨ad, hA, i0, i1, i2, i3, i4, i5⟩ := at_T51 HR.out x hlt hx1
      cases hA
      have hBx := (hB.trans HK.out.1)
      replace i0 := (hBx.cell (World.block_lt_of_cell? w0 _ i0)).trans i0
      replace i1 := (hBx.cell (World.block_lt_of_cell? w0 _ i1)).trans i1
      replace i2 := (hBx.cell (World.block_lt_of_cell? w0 _ i2)).trans i2
      replace i3 := (hBx.cell (World.block_lt_of_cell? w0 _ i3)).trans i3
      replace i4 := (hBx.cell (World.block_lt_of_cell? w0 _ i4)).trans i4
      replace i5 := (hBx.cell (World.block_lt_of_cell? w0 _ i5)).trans i5
      have p1 := eq_true hlt
      have q1 := eq_true hx1
      obtain ⟨fn, tmps, assign, body, hy, hR⟩ := hY _ (x, rd_T51 code x) wr (HP.out _ (mem_rd (z := z51) hlt hx1)) HJ.out (by rw [seqB_length]; omega)
      have HS := Aside0.mk (seqB_succ code k)
      rw [hx] at HS ⊢
      simp only [encB, insV] at hy hR
      have HR2 := Aside0.mk hR; clear hR hBx hx
      gi_wp2
      refine HR2.out.mono ?_
      rintro e W3 (⟨rfl, hJ3, hk3⟩ | ⟨rfl, hJx3⟩)
      · have HJ3 := Aside0.mk hJ3; have HK3 := Aside0.mk (HK.out.trans hk3)
        clear hJ3 hk3 HJ HK i0 i1 i2 i3 i4 i5 b1
        gi_wp2
        go_roundw
        case rel => exact ⟨k + 1, by have := HX.out; omega, by have := HX.out; rw [← HX.out]; congr 1; omega, ⟨by rw [HS.out]; exact HJ3.out⟩, HK3⟩
        case measure => simp [intOf]; omega
      · have HJ3 := Aside0.mk hJx3
        clear hJx3 HJ HK i0 i1 i2 i3 i4 i5 b1
        gi_wp2
        refine bodyPost_ret (results_none rfl _ _ _) rfl ?_
        exact ⟨⟨_, rfl⟩, .inr ⟨_, ⟨k + 1, by have := HX.out; omega, HS.out.symm⟩, HJ3.out⟩⟩
    · have hkl : k = code.length := by omega
      have HKL := Aside0.mk hkl
      clear hkl
      rw [hx]
      clear hx
      gi_wp2
      go_end0
      exact ⟨⟨_, rfl⟩, .inl (by have := HJ.out; rw [HKL.out] at this; exact this)⟩
theorem backward_in (n : Nat) (A : Option Addr) (len c : Nat) (w : World) :
    CallsIn Fence.wide n Try.prog 94 #[.slice A len c] w fun e w' => e = .returned (.func (.func 110) #[] #[.pointer (some ⟨w.heap.size, 0, none⟩)]) ∧ w.alloc (.cells #[.slice A len c] 47) = w' := by
  refine callsIn_of_wp Try.func94 rfl trivial ?_ rfl
  simp only [Try.ntmps94, List.size_toArray, List.length_cons, List.length_nil, Nat.reduceAdd, Nat.reduceSub, Array.replicate_succ, Array.replicate_zero, List.push_toArray, List.append_toArray, List.nil_append, List.cons_append]
  gi_wp2
  go_ret
  exact ⟨rfl, rfl⟩
theorem back_stops (n bx : Nat) (A : Option Addr) (c : Nat) (code : List S51) (p : S51 → Prop) (w0 w : World) (hn : 1 ≤ n) (hr : Kd.C k51 w0 A code.length code) (hcp : code.length ≤ c) (hm : code.length ≤ 1000000) (hp : ∀ i ∈ code, p i) (hB : Below w0.heap.size w0 w)
    (hBs : w.heap[bx]? = some (.cells #[.slice A code.length c] 47 (0, 0))) :
    SeqStopsK Fence.wide n Try.prog 110 #[.pointer (some ⟨bx, 0, none⟩)] (fun x : { x : Int × S51 // p x.2 } => encB x.1) (KB w0.heap.size bx) (fun ys => ys.map (·.1) = seqB code code.length) (fun _ => True) code.length w := fun l J Jx W hW _ _ hY h0 => by
  refine (back1_in n l bx A c code w0 hn hr hcp hm p hp (fun ys W => ∃ xs : List { x : Int × S51 // p x.2 }, xs.map (·.1) = ys ∧ J xs W) (fun ys W => ∃ xs : List { x : Int × S51 // p x.2 }, xs.map (·.1) = ys ∧ Jx xs W) ?_ W (hB.trans (hW.mono hB.size)) (blk_below hBs hW) ⟨[], rfl, h0⟩).mono ?_
  · rintro pre x W1 hx ⟨xs, rfl, hJ⟩ hl
    obtain ⟨fn, tmps, assign, body, hy, hR⟩ := hY xs ⟨x, hx⟩ W1 hJ (by simpa using hl)
    refine ⟨fn, tmps, assign, body, hy, hR.mono ?_⟩
    rintro e W' (⟨he, hj, hk⟩ | ⟨he, hj⟩)
    · exact .inl ⟨he, ⟨_, by simp, hj⟩, hk⟩
    · exact .inr ⟨he, ⟨_, by simp, hj⟩⟩
  · rintro e W' ⟨he, ⟨ys, rfl, xs, hxs, hj⟩ | ⟨pre, _, xs, _, hj⟩⟩
    · exact ⟨he, .inl ⟨xs, hxs, hj⟩⟩
    · exact ⟨he, .inr ⟨xs, trivial, hj⟩⟩
end Go.Proofs.Ytadaopfcgpfiiaa
namespace Go.Proofs.Ytadaopfcgpfiiaa
open Go.RowKit Go.Proofs.YtadaopfcgpfiiaaW.PrintWords Go.Proofs.YtadaopfcgpfiiaaW.PrintLast Go.Proofs.YtadaopfcgpfiiaaW.PrintMore PCg
set_option linter.unusedVariables false
set_option linter.unusedSimpArgs false
def zc (x : Int) : Nat := ((List.range 64).filter fun i => !(bw x).getLsbD i).length
theorem zc_le (x : Int) : zc x ≤ 64 := by
  unfold zc
  refine Nat.le_trans (List.length_filter_le _ _) ?_
  simp
theorem bwLe_bit {x y : Int} (h : bwLe x y) {i : Nat} (hb : (bw x).getLsbD i = true) : (bw y).getLsbD i = true := by
  unfold bwLe at h
  rw [← h, BitVec.getLsbD_or, hb]
  rfl
theorem zc_mono {x y : Int} (h : bwLe x y) : zc y ≤ zc x := by
  unfold zc
  have key : ∀ l : List Nat, (l.filter fun i => !(bw y).getLsbD i).length ≤ (l.filter fun i => !(bw x).getLsbD i).length := by
    intro l
    induction l with
    | nil => simp
    | cons a l ih =>
      simp only [List.filter_cons]
      have hm := bwLe_bit h (i := a)
      cases hx : (bw x).getLsbD a <;> cases hy : (bw y).getLsbD a
      · simp; exact ih
      · simp; omega
      · rw [hm hx] at hy; cases hy
      · simp; exact ih
  exact key _
theorem zc_lt {x y : Int} (h : bwLe x y) (hx : CanW x) (hy : CanW y) (hne : x ≠ y) : zc y < zc x := by
  have hb : ∃ i, i < 64 ∧ (bw y).getLsbD i = true ∧ (bw x).getLsbD i = false := by
    by_cases hex : ∃ i, i < 64 ∧ (bw y).getLsbD i = true ∧ (bw x).getLsbD i = false
    · exact hex
    · exfalso
      apply hne
      have : bw x = bw y := by
        apply BitVec.eq_of_getLsbD_eq
        intro i hi
        cases e1 : (bw x).getLsbD i <;> cases e2 : (bw y).getLsbD i
        · rfl
        · exact absurd ⟨i, hi, e2, e1⟩ hex
        · rw [bwLe_bit h e1] at e2; cases e2
        · rfl
      rw [← canW_bw hx, ← canW_bw hy, this]
  obtain ⟨i, hi, e1, e2⟩ := hb
  unfold zc
  exact filter_lt (fun i => !(bw x).getLsbD i) (fun i => !(bw y).getLsbD i) (fun j hj => by
    cases e : (bw x).getLsbD j with
    | false => rfl
    | true => rw [bwLe_bit h e] at hj; cases hj) i (by simp [e2]) (by simp [e1]) _ (List.mem_range.2 hi)
def zsum (s : List Int) : Nat := (s.map zc).sum
theorem zsum_le64 (s : List Int) : zsum s ≤ 64 * s.length := by
  induction s with
  | nil => simp [zsum]
  | cons x s ih => have := zc_le x; simp only [zsum, List.map_cons, List.sum_cons, List.length_cons] at *; omega
theorem zsum_le : ∀ s t : List Int, sLe s t → zsum t ≤ zsum s := by
  intro s
  induction s with
  | nil => intro t h; have : t = [] := List.eq_nil_of_length_eq_zero h.1.symm; subst this; exact Nat.le_refl _
  | cons x s ih =>
    intro t h
    cases t with
    | nil => have := h.1; simp at this
    | cons y t =>
      obtain ⟨h1, h2⟩ := sLe_cons h
      have h3 := ih t h2
      have h4 := zc_mono h1
      simp only [zsum, List.map_cons, List.sum_cons] at *
      omega
theorem zsum_lt : ∀ s t : List Int, sLe s t → Canon s → Canon t → s ≠ t → zsum t < zsum s := by
  intro s
  induction s with
  | nil => intro t h _ _ hne; have : t = [] := List.eq_nil_of_length_eq_zero h.1.symm; exact absurd this.symm hne
  | cons x s ih =>
    intro t h hs ht hne
    cases t with
    | nil => have := h.1; simp at this
    | cons y t =>
      obtain ⟨h1, h2⟩ := sLe_cons h
      by_cases e : x = y
      · subst e
        have h3 := ih t h2 (fun q hq => hs q (List.mem_cons_of_mem _ hq)) (fun q hq => ht q (List.mem_cons_of_mem _ hq)) (fun e => hne (by rw [e]))
        simp only [zsum, List.map_cons, List.sum_cons] at *
        omega
      · have h3 := zsum_le s t h2
        have h4 := zc_lt h1 (hs x (List.mem_cons_self ..)) (ht y (List.mem_cons_self ..)) e
        simp only [zsum, List.map_cons, List.sum_cons] at *
        omega
def upd {α : Type} (f : Nat → α) (b : Nat) (x : α) : Nat → α := fun i => if i = b then x else f i
theorem upd_same {α : Type} (f : Nat → α) (b : Nat) (x : α) : upd f b x b = x := if_pos rfl
theorem upd_ne {α : Type} (f : Nat → α) {b i : Nat} (x : α) (h : i ≠ b) : upd f b x i = f i := if_neg h
def sumZ (ins : Nat → List Int) : Nat → Nat
  | 0 => 0
  | n + 1 => sumZ ins n + zsum (ins n)
theorem sumZ_le {ins : Nat → List Int} {L : Nat} : ∀ n, (∀ i, i < n → (ins i).length = L) → sumZ ins n ≤ n * (64 * L) := by
  intro n
  induction n with
  | zero => intro _; simp [sumZ]
  | succ n ih =>
    intro h
    have h1 := ih (fun i hi => h i (by omega))
    have h2 := zsum_le64 (ins n)
    rw [h n (by omega)] at h2
    rw [sumZ, Nat.succ_mul]
    omega
theorem sumZ_ext {ins ins' : Nat → List Int} : ∀ n, (∀ i, i < n → ins' i = ins i) → sumZ ins' n = sumZ ins n := by
  intro n
  induction n with
  | zero => intro _; rfl
  | succ n ih => intro h; rw [sumZ, sumZ, ih (fun i hi => h i (by omega)), h n (by omega)]
theorem sumZ_upd {ins : Nat → List Int} {s : List Int} {b : Nat} : ∀ n, b < n → sumZ (upd ins b s) n + zsum (ins b) = sumZ ins n + zsum s := by
  intro n
  induction n with
  | zero => intro h; omega
  | succ n ih =>
    intro h
    rw [sumZ, sumZ]
    by_cases e : b = n
    · subst e
      rw [upd_same, sumZ_ext (ins := ins) (ins' := upd ins b s) b (fun i hi => upd_ne _ _ (by omega))]
      omega
    · rw [upd_ne _ _ (fun h => e h.symm)]
      have := ih (by omega)
      omega
/-- the work that is left -/
def solveM (n : Nat) (ins : Nat → List Int) (work : List Int) : Nat := sumZ ins n * (2 * n + 1) + work.length
theorem solveM_change {n b : Nat} {ins : Nat → List Int} {s : List Int} {work prev : List Int} (hb : b < n) (hs : zsum s < zsum (ins b)) (hp : prev.length ≤ 2 * n) (x : Int) :
    solveM n (upd ins b s) (work ++ prev) < solveM n ins (work ++ [x]) := by
  have h1 := sumZ_upd (ins := ins) (s := s) n hb
  have h2 : sumZ (upd ins b s) n + 1 ≤ sumZ ins n := by omega
  have h3 : (sumZ (upd ins b s) n + 1) * (2 * n + 1) ≤ sumZ ins n * (2 * n + 1) := Nat.mul_le_mul_right _ h2
  rw [Nat.succ_mul] at h3
  unfold solveM
  simp only [List.length_append, List.length_singleton]
  omega
/-- what the solver's sets keep -/
structure SInv (regs : Int) (L n : Nat) (blks : List S49) (ins outs prevs : Nat → List Int) (work : List Int) : Prop where
  ilen : ∀ i, i < n → (ins i).length = L
  olen : ∀ i, i < n → (outs i).length = L
  ican : ∀ i, i < n → Canon (ins i)
  ocan : ∀ i, i < n → Canon (outs i)
  ibnd : ∀ i, i < n → Bnd regs (ins i)
  obnd : ∀ i, i < n → Bnd regs (outs i)
  le : ∀ i, i < n → sLe (ins i) (liveB (rd_T49 blks i) (outs i))
  prev : ∀ i, i < n → (prevs i).length ≤ 2 * n ∧ ∀ x ∈ prevs i, 0 ≤ x ∧ x < n
  work : ∀ x ∈ work, 0 ≤ x ∧ x < n
section
variable {regs : Int} {L n : Nat} {blks : List S49} {ins outs prevs : Nat → List Int} {work : List Int}
/-- a set has been joined to the ones at a block's end -/
theorem SInv.join (h : SInv regs L n blks ins outs prevs work) (hr : regs ≤ 64 * (L : Int)) (hw : ∀ i : Nat, i < n → BlkWf regs n (rd_T49 blks i)) {b t : Nat} (hb : b < n) (ht : t < n) : SInv regs L n blks ins (upd outs b (joinL (outs b) (ins t))) prevs work := by
  obtain ⟨h1, h2, h3, h4, h5, h6, h7, h8, h9⟩ := h
  have key : ∀ {p : List Int → Prop}, (∀ i, i < n → p (outs i)) → p (joinL (outs b) (ins t)) → ∀ i, i < n → p (upd outs b (joinL (outs b) (ins t)) i) := by
    intro p hp hj i hi
    by_cases e : i = b
    · subst e; rw [upd_same]; exact hj
    · rw [upd_ne _ _ e]; exact hp i hi
  refine ⟨h1, key (p := fun s => s.length = L) h2 (by rw [joinL_len]; exact h2 b hb), h3, key (p := Canon) h4 ((h4 b hb).join _), h5, key (p := Bnd regs) h6 ((h6 b hb).join (h5 t ht)), fun i hi => ?_, h8, h9⟩
  by_cases e : i = b
  · subst e
    rw [upd_same]
    exact (h7 i hi).trans (liveB_mono (hw i hi) (by rw [h2 i hi]; exact hr) (joinL_le _ _))
  · rw [upd_ne _ _ e]; exact h7 i hi
theorem SInv.pop (h : SInv regs L n blks ins outs prevs work) {w2 : List Int} (hs : ∀ x ∈ w2, x ∈ work) : SInv regs L n blks ins outs prevs w2 :=
  ⟨h.ilen, h.olen, h.ican, h.ocan, h.ibnd, h.obnd, h.le, h.prev, fun x hx => h.work x (hs x hx)⟩
/-- a block's set has changed -/
theorem SInv.change (h : SInv regs L n blks ins outs prevs work) (hw : ∀ i : Nat, i < n → BlkWf regs n (rd_T49 blks i)) {b : Nat} (hb : b < n) : SInv regs L n blks (upd ins b (liveB (rd_T49 blks b) (outs b))) outs prevs (work ++ prevs b) := by
  obtain ⟨h1, h2, h3, h4, h5, h6, h7, h8, h9⟩ := h
  have key : ∀ {p : List Int → Prop}, (∀ i, i < n → p (ins i)) → p (liveB (rd_T49 blks b) (outs b)) → ∀ i, i < n → p (upd ins b (liveB (rd_T49 blks b) (outs b)) i) := by
    intro p hp hj i hi
    by_cases e : i = b
    · subst e; rw [upd_same]; exact hj
    · rw [upd_ne _ _ e]; exact hp i hi
  refine ⟨key (p := fun s => s.length = L) h1 (by rw [liveB_len]; exact h2 b hb), h2, key (p := Canon) h3 (liveB_canon _ (h4 b hb)), h4, key (p := Bnd regs) h5 (liveB_bnd (hw b hb) (h6 b hb)), h6, fun i hi => ?_, h8, fun x hx => ?_⟩
  · by_cases e : i = b
    · subst e; rw [upd_same]; exact sLe.refl _
    · rw [upd_ne _ _ e]; exact h7 i hi
  · rcases List.mem_append.1 hx with hx | hx
    · exact h9 x hx
    · exact (h8 b hb).2 x hx
theorem SInv.bound (h : SInv regs L n blks ins outs prevs work) (hn : n ≤ 10000) (hL : L ≤ 157) : sumZ ins n ≤ 10000 * 10048 := by
  refine Nat.le_trans (sumZ_le n h.ilen) ?_
  exact Nat.mul_le_mul hn (by omega)
end
end Go.Proofs.Ytadaopfcgpfiiaa
namespace Go.Proofs.Ytadaopfcgpfiiaa
open Go.RowKit Go.Proofs.YtadaopfcgpfiiaaW.PrintWords Go.Proofs.YtadaopfcgpfiiaaW.PrintLast Go.Proofs.YtadaopfcgpfiiaaW.PrintMore PCg
set_option linter.unusedVariables false
set_option linter.unusedSimpArgs false
/-- the keys of a map's entries are ks -/
def Keyed (es : Array MapEntry) (ks : List Int) : Prop := es.toList.map (·.key) = ks.map (Value.int .i64)
/-- block mb of w is a map whose keys are ks -/
def MSet (w : World) (mb : Nat) (ks : List Int) : Prop :=
  ∃ es clock, w.heap[mb]? = some (.map es clock) ∧ MapKept.Stamped es clock ∧ Keyed es ks
def insK (k : Int) (ks : List Int) : List Int := if k ∈ ks then ks else ks ++ [k]
theorem insK_mem {k j : Int} {ks : List Int} : j ∈ insK k ks ↔ j = k ∨ j ∈ ks := by
  unfold insK
  split
  · constructor
    · exact fun h => .inr h
    · rintro (rfl | h)
      · assumption
      · exact h
  · simp [or_comm]
/-- .. and an entry of it has the stamp b -/
def MSetB (w : World) (mb : Nat) (ks : List Int) (b : Nat) : Prop :=
  ∃ es clock, w.heap[mb]? = some (.map es clock) ∧ MapKept.Stamped es clock ∧ Keyed es ks ∧ ∃ e ∈ es.toList, e.born = b
theorem MSet.kept {w w1 : World} {mb : Nat} {ks : List Int} (h : MSet w mb ks) (hk : w1.heap[mb]? = w.heap[mb]?) : MSet w1 mb ks := by
  obtain ⟨es, c, hb, h⟩ := h
  exact ⟨es, c, hk.trans hb, h⟩
theorem MSet.lt {w : World} {mb : Nat} {ks : List Int} (h : MSet w mb ks) : mb < w.heap.size := by
  obtain ⟨es, c, hb, h⟩ := h
  exact blk_lt hb
theorem keyed_isKey {es : Array MapEntry} {ks : List Int} (h : Keyed es ks) : ∀ x ∈ es.toList, MapKept.IsKey (.int .i64) x.key := by
  intro x hx
  have : x.key ∈ es.toList.map (·.key) := List.mem_map.2 ⟨x, hx, rfl⟩
  rw [h] at this
  obtain ⟨k, _, e⟩ := List.mem_map.1 this
  rw [← e]
  exact rfl
theorem keyed_mem {es : Array MapEntry} {ks : List Int} (h : Keyed es ks) (k : Int) : k ∈ ks ↔ ∃ e ∈ es.toList, e.key = .int .i64 k := by
  constructor
  · intro hk
    have : Value.int .i64 k ∈ es.toList.map (·.key) := by rw [h]; exact List.mem_map.2 ⟨k, hk, rfl⟩
    obtain ⟨e, he, hek⟩ := List.mem_map.1 this
    exact ⟨e, he, hek⟩
  · rintro ⟨e, he, hek⟩
    have : e.key ∈ ks.map (Value.int .i64) := by rw [← h]; exact List.mem_map.2 ⟨e, he, rfl⟩
    rw [hek] at this
    obtain ⟨k', hk', e'⟩ := List.mem_map.1 this
    injection e' with _ e'
    exact e' ▸ hk'
theorem mset_grown (w : World) (mb : Nat) (o : Obj) {o' : Obj} (h : w.heap[mb]? = some o') : w.grownBy { w with heap := w.heap.setIfInBounds mb o } (some mb) :=
  ⟨rfl, rfl, rfl, by simp, fun k hk hne => (MapKept.heap_set h).2 k (fun e => hne (by rw [e]))⟩
theorem zeroBool (w : World) : (zeroValue 4).run Try.prog w = .ok (.bool false) w := by kernel_rfl
/-- m[k] = .., the first half: the entry is there -/
theorem mset_entry {w : World} {mb : Nat} {ks : List Int} (h : MSet w mb ks) (k : Int) :
    ∃ v b w1, (Instr.mapEntry 169 (.map (some mb)) (.int .i64 k)).run Try.prog w = .ok (.tuple #[v, .int .i64 ((b : Nat) : Int)]) w1 ∧ MSetB w1 mb (insK k ks) b ∧ w.grownBy w1 (some mb) := by
  obtain ⟨es, c, hb, hs, hkd⟩ := h
  have hks := keyed_isKey hkd
  have hk : MapKept.IsKey (.int .i64) (.int .i64 k) := rfl
  rcases MapKept.findNow_spec hk es.toList 0 hks with ⟨h1, h2⟩ | ⟨j, e, h1, h2, h3⟩
  · have hn : k ∉ ks := fun hm => by
      obtain ⟨e, he, hek⟩ := (keyed_mem hkd k).1 hm
      exact h2 e he hek
    refine ⟨.bool false, c, _, ?_, ⟨_, _, (MapKept.heap_set hb).1, MapKept.stamped_push hs h2, ?_, ⟨{ key := .int .i64 k, val := .bool false, born := c }, Array.mem_toList_iff.2 Array.mem_push_self, rfl⟩⟩, mset_grown w mb _ hb⟩
    · simp only [Instr.mapEntry, Sem.run_bind, run_underlying Try.underlying169, MapKept.run_getObj_map hb, MapKept.run_checkKey Try.underlying3 hk, MapKept.run_findKey Try.underlying3 h1, Result.andThen, zeroBool, MapKept.run_setObj_map _ hb, Sem.run_pure]
      rfl
    · rw [insK, if_neg hn]
      unfold Keyed at *
      simp [hkd]
  · have hj : es[j]? = some e := by simpa using h2
    have hm : k ∈ ks := (keyed_mem hkd k).2 ⟨e, List.mem_of_getElem? h2, h3⟩
    have hkey : ∀ e', es[j]? = some e' → ({ e' with key := .int .i64 k } : MapEntry).key = e'.key := fun e' he' => by rw [hj] at he'; cases he'; exact h3.symm
    have hjl : j < es.size := (Array.getElem?_eq_some_iff.1 hj).1
    refine ⟨e.val, e.born, _, ?_, ⟨_, _, (MapKept.heap_set hb).1, MapKept.stamped_modify hs j (fun e => { e with key := .int .i64 k }) (fun _ _ => rfl) (fun e' _ he' => hkey e' he'), ?_, ⟨{ e with key := .int .i64 k }, ?_, rfl⟩⟩, mset_grown w mb _ hb⟩
    · have hkk := MapKept.run_keyThatStays (P := Try.prog) (w := w) hk
      simp [Instr.mapEntry, run_underlying Try.underlying169, MapKept.run_getObj_map hb, MapKept.run_checkKey Try.underlying3 hk, MapKept.run_findKey Try.underlying3 h1, hj, h3, hkk, MapKept.run_setObj_map _ hb, Result.andThen, goInt]
    · rw [insK, if_pos hm]
      unfold Keyed at *
      rw [MapKept.modify_keys j _ hkey]
      exact hkd
    · rw [Array.mem_toList_iff]
      refine Array.mem_of_getElem? (i := j) ?_
      rw [Array.getElem?_modify]
      simp [hj]
/-- m[k] = true, the second half -/
theorem mset_store {w : World} {mb b : Nat} {ks : List Int} (h : MSetB w mb ks b) (v : Value) :
    ∃ w1, (Instr.entryStore 169 (.map (some mb)) (.int .i64 ((b : Nat) : Int)) v).run Try.prog w = .ok () w1 ∧ MSet w1 mb ks ∧ w.grownBy w1 (some mb) := by
  obtain ⟨es, c, hb, hs, hkd, e, he, heb⟩ := h
  have hf : ∃ i, es.findIdx? (fun e => (e.born : Int) == (b : Int)) = some i := by
    cases hc : es.findIdx? (fun e => (e.born : Int) == (b : Int)) with
    | some i => exact ⟨i, rfl⟩
    | none =>
      rw [Array.findIdx?_eq_none_iff] at hc
      have := hc e (Array.mem_toList_iff.1 he)
      simp [heb] at this
  obtain ⟨i, hi⟩ := hf
  refine ⟨_, ?_, ⟨_, _, (MapKept.heap_set hb).1, MapKept.stamped_modify hs i (fun e => { e with val := v }) (fun _ _ => rfl) (fun _ _ _ => rfl), ?_⟩, mset_grown w mb _ hb⟩
  · have ha : (asInt (.int .i64 (b : Int))).run Try.prog w = .ok (b : Int) w := by simp [asInt, asIntOf]
    simp only [Instr.entryStore, Sem.run_bind, MapKept.run_getObj_map hb, Result.andThen, ha, hi, MapKept.run_setObj_map _ hb]
  · unfold Keyed at *
    rw [MapKept.modify_keys i (fun e => { e with val := v }) (fun _ _ => rfl)]
    exact hkd
theorem mset_made (w : World) : MSet (w.alloc (.map #[] 0)) w.heap.size [] := ⟨#[], 0, (MapKept.heap_alloc w _).1, MapKept.stamped_empty 0, rfl⟩
/-- an iterator over the map in block mb, in block ib: the keys done have been handed out, the last one last -/
def MIter (w : World) (ib mb : Nat) (ks done : List Int) : Prop :=
  mb ≠ ib ∧ ∃ es clock since seen c0, w.heap[mb]? = some (.map es clock) ∧ MapKept.Stamped es clock ∧ Keyed es ks ∧ w.heap[ib]? = some (.mapIter (some mb) since seen c0) ∧
    (∀ x ∈ es.toList, x.born < since) ∧ since ≤ c0 ∧ since ≤ clock ∧ (∀ e ∈ es.toList, ∀ k, e.key = .int .i64 k → (seen.contains e.born = true ↔ k ∈ done)) ∧ (∀ k ∈ done, k ∈ ks) ∧ done.Nodup
theorem MIter.kept {w w1 : World} {ib mb : Nat} {ks done : List Int} (h : MIter w ib mb ks done) (h1 : w1.heap[mb]? = w.heap[mb]?) (h2 : w1.heap[ib]? = w.heap[ib]?) : MIter w1 ib mb ks done := by
  obtain ⟨hne, es, c, since, seen, c0, hm, hs, hk, hi, hr⟩ := h
  exact ⟨hne, es, c, since, seen, c0, h1.trans hm, hs, hk, h2.trans hi, hr⟩
theorem mset_range {w : World} {mb : Nat} {ks : List Int} (h : MSet w mb ks) :
    ∃ w1, (Instr.range 169 (.map (some mb))).run Try.prog w = .ok (.pointer (some ⟨w.heap.size, 0, none⟩)) w1 ∧ MIter w1 w.heap.size mb ks [] ∧ Below w.heap.size w w1 ∧ w1.heap.size = w.heap.size + 1 := by
  obtain ⟨es, c, hb, hs, hkd⟩ := h
  have hlt := blk_lt hb
  refine ⟨_, run_range_map w 169 3 4 mb es c Try.underlying169 hb, ⟨by omega, es, c, c, #[], c, ?_, hs, hkd, heap_alloc_new w _, hs.1, Nat.le_refl _, Nat.le_refl _, ?_, by simp, by simp⟩, (Below.refl _ _).alloc (Nat.le_refl _) _, by simp⟩
  · rw [heap_alloc_old w _ hlt]; exact hb
  · intro e he k hk; simp
theorem run_getObj_iter {w : World} {ib : Nat} {m : Option Nat} {a : Nat} {s : Array Nat} {b : Nat} (h : w.heap[ib]? = some (.mapIter m a s b)) : (getObj ib).run Try.prog w = .ok (.mapIter m a s b) w := by simp [getObj, Sem.run, h]
theorem miter_next {w : World} {ib mb : Nat} {ks done : List Int} (h : MIter w ib mb ks done) (t : TypeId) :
    ((∀ k ∈ ks, k ∈ done) ∧ (Instr.next (.pointer (some ⟨ib, 0, none⟩)) false t).run Try.prog w = .ok (.tuple #[.bool false]) w) ∨
    ∃ k v w1, k ∈ ks ∧ k ∉ done ∧ (Instr.next (.pointer (some ⟨ib, 0, none⟩)) false t).run Try.prog w = .ok (.tuple #[.bool true, .int .i64 k, v]) w1 ∧
      (Instr.entry (.pointer (some ⟨ib, 0, none⟩))).run Try.prog w1 = .ok (.tuple #[.int .i64 k, v]) w1 ∧ MIter w1 ib mb ks (k :: done) ∧ w.grownBy w1 (some ib) ∧ w1.heap.size = w.heap.size := by
  obtain ⟨hne, es, c, since, seen, c0, hm, hs, hkd, hi, hold, hsc, hsc2, hseen, hdk, hdn⟩ := h
  have hgi : (getObj ib).run Try.prog w = .ok (.mapIter (some mb) since seen c0) w := by simp [getObj, Sem.run, hi]
  simp only [Instr.next, Sem.run_bind, hgi, MapKept.run_getObj_map hm, Result.andThen, next_test_false seen es since c0 hold hsc, Bool.false_eq_true, if_false]
  have hL : ∀ e, e ∈ (Array.filter (fun e => !seen.contains e.born) es).toList ↔ e ∈ es.toList ∧ seen.contains e.born = false := by
    intro e
    simp
  have hmem : ∀ x ∈ (Array.filter (fun e => !seen.contains e.born) es).toList, x.born < since := fun x hx => hold x ((hL x).1 hx).1
  generalize Array.filter (fun e => !seen.contains e.born) es = L at hmem hL ⊢
  have e1 : L.filter (fun x => decide (x.born < since)) = L := Array.filter_eq_self.2 (fun x hx => by simpa using hmem x (by simpa using hx))
  have e2 : L.filter (fun x => decide (x.born ≥ since)) = #[] := by
    rw [Array.filter_eq_empty_iff]
    intro x hx
    have := hmem x (by simpa using hx)
    simp
    omega
  simp only [e1, e2, Array.append_empty]
  by_cases h0 : L.size = 0
  · left
    have : L = #[] := Array.eq_empty_of_size_eq_zero h0
    subst this
    refine ⟨fun k hk => ?_, by simp [choose, Sem.run, Question.forced]⟩
    obtain ⟨e, he, hek⟩ := (keyed_mem hkd k).1 hk
    refine (hseen e he k hek).1 ?_
    cases hc : seen.contains e.born with
    | true => rfl
    | false => have := (hL e).2 ⟨he, hc⟩; simp at this
  · right
    have hnE : L.isEmpty = false := by simp [Array.isEmpty, h0]
    simp only [hnE, Bool.false_eq_true, if_false, Array.empty_append, Array.size_map]
    have hch : ∃ (j : Nat) (w1 : World), j < L.size ∧ w.grownBy w1 none ∧ w1.heap = w.heap ∧ (choose (Question.mapNext L.size)).run Try.prog w = .ok j w1 := by
      by_cases hf : L.size ≤ 1
      · exact ⟨0, w, by omega, World.grownBy.refl w none, rfl, by simp [choose, Sem.run, Question.forced, hf]⟩
      · exact ⟨_, w.drew, Nat.mod_lt _ (by omega), ⟨rfl, rfl, rfl, Nat.le_refl _, fun _ _ _ => rfl⟩, rfl, by
          simp only [choose, Sem.run, Question.forced, decide_eq_true_eq, hf, if_false, Question.cut]
          rfl⟩
    obtain ⟨j, w1, hj, hal, hheap, hrun⟩ := hch
    obtain ⟨he, hes⟩ := (hL L[j]).1 (by simp)
    have hkj := keyed_isKey hkd L[j] he
    obtain ⟨k, hk⟩ : ∃ k, L[j].key = .int .i64 k := by
      revert hkj
      cases L[j].key <;> simp [MapKept.IsKey]
    have hi1 : w1.heap[ib]? = some (.mapIter (some mb) since seen c0) := by rw [hheap]; exact hi
    have hset : (setObj ib (.mapIter (some mb) since (seen.push L[j].born) c)).run Try.prog w1 = .ok () { w1 with heap := w1.heap.setIfInBounds ib (.mapIter (some mb) since (seen.push L[j].born) c) } := by simp [setObj, Sem.run, hi1]
    have hib : ({ w1 with heap := w1.heap.setIfInBounds ib (.mapIter (some mb) since (seen.push L[j].born) c) } : World).heap[ib]? = some (.mapIter (some mb) since (seen.push L[j].born) c) := (MapKept.heap_set hi1).1
    have hmb : ({ w1 with heap := w1.heap.setIfInBounds ib (.mapIter (some mb) since (seen.push L[j].born) c) } : World).heap[mb]? = some (.map es c) := ((MapKept.heap_set hi1).2 mb hne).trans (by rw [hheap]; exact hm)
    have hg : w.grownBy { w1 with heap := w1.heap.setIfInBounds ib (.mapIter (some mb) since (seen.push L[j].born) c) } (some ib) :=
      ⟨hal.os, hal.tape, hal.output, by simp [hheap], fun k _ hkn => ((MapKept.heap_set hi1).2 k (fun e => hkn (by rw [e]))).trans (by rw [hheap])⟩
    have hsz : ({ w1 with heap := w1.heap.setIfInBounds ib (.mapIter (some mb) since (seen.push L[j].born) c) } : World).heap.size = w.heap.size := by simp [hheap]
    refine ⟨k, L[j].val, _, (keyed_mem hkd k).2 ⟨L[j], he, hk⟩, fun hd => ?_, ?_, ?_, ⟨hne, es, c, since, _, c, hmb, hs, hkd, hib, hold, hsc2, hsc2, ?_, ?_, ?_⟩, hg, hsz⟩
    · have := (hseen _ he k hk).2 hd
      rw [hes] at this
      cases this
    · simp only [hrun, Array.getElem?_map, Array.getElem?_eq_getElem hj, Option.map_some, Sem.run_bind, hset, Result.andThen, Sem.run_pure, hk]
    · have hf : es.find? (·.born == L[j].born) = some L[j] := by rw [← Array.find?_toList]; exact find_born L[j] es.toList hs.2.1 he
      have hgi2 := run_getObj_iter hib
      simp only [Instr.entry, Sem.run_bind, hgi2, MapKept.run_getObj_map hmb, Result.andThen, Array.back?_push, bne_self_eq_false, Bool.false_eq_true, if_false, hf, hk]
      rfl
    · intro e he' k' hk'
      rw [Array.contains_push]
      have h1 := hseen e he' k' hk'
      have hinj : e.born = L[j].born → e = L[j] := fun hbn => by
        have ha := find_born e es.toList hs.2.1 he'
        have hb' := find_born L[j] es.toList hs.2.1 he
        rw [hbn] at ha
        rw [ha] at hb'
        injection hb'
      have hinj2 : e.key = L[j].key → e = L[j] := fun hbn => by
        have hp := ((MapKept.stamped_iff es c).1 hs).2.2
        obtain ⟨a, ha, hae⟩ := List.getElem_of_mem he'
        obtain ⟨b, hb2, hbe⟩ := List.getElem_of_mem he
        rcases Nat.lt_trichotomy a b with hlt | heq | hlt
        · exact absurd (by rw [hae, hbe]; exact hbn) (List.pairwise_iff_getElem.1 hp a b ha hb2 hlt)
        · subst heq; rw [← hae, ← hbe]
        · exact absurd (by rw [hae, hbe]; exact hbn.symm) (List.pairwise_iff_getElem.1 hp b a hb2 ha hlt)
      rw [Bool.or_eq_true, beq_iff_eq]
      constructor
      · rintro (h2 | h2)
        rotate_left
        · have hq := hinj h2
          rw [hq, hk] at hk'
          injection hk' with _ hk'
          rw [← hk']
          exact List.mem_cons_self ..
        · exact List.mem_cons_of_mem _ (h1.1 h2)
      · intro h2
        rcases List.mem_cons.1 h2 with h2 | h2
        · right
          rw [hinj2 (by rw [hk', hk, h2])]
        · left
          exact h1.2 h2
    · intro k' hk'
      rcases List.mem_cons.1 hk' with rfl | h2
      · exact (keyed_mem hkd _).2 ⟨L[j], he, hk⟩
      · exact hdk k' h2
    · refine List.nodup_cons.2 ⟨fun hd => ?_, hdn⟩
      have := (hseen _ he k hk).2 hd
      rw [hes] at this
      cases this
end Go.Proofs.Ytadaopfcgpfiiaa
namespace Go.Proofs.Ytadaopfcgpfiiaa
open Go.RowKit Go.Proofs.YtadaopfcgpfiiaaW.PrintWords Go.Proofs.YtadaopfcgpfiiaaW.PrintLast Go.Proofs.YtadaopfcgpfiiaaW.PrintMore PCg
set_option linter.unusedVariables false
set_option linter.unusedSimpArgs false
/-- block g of w is a row of n cells, the first k of which are maps: the i-th lies in block mb i, its keys K i are nodes other than i -/
structure Adj (w : World) (base g n k : Nat) (mb : Nat → Nat) (K : Nat → List Int) : Prop where
  row : ∃ cells : Array Value, w.heap[g]? = some (.cells cells 169 (0, 0)) ∧ cells.size = n ∧ ∀ i, i < k → cells[i]? = some (.map (some (mb i)))
  base : base ≤ g
  le : k ≤ n
  mbase : ∀ i, i < k → g < mb i
  inj : ∀ i j, i < k → j < k → mb i = mb j → i = j
  maps : ∀ i, i < k → MSet w (mb i) (K i)
  keys : ∀ i, i < k → ∀ x ∈ K i, 0 ≤ x ∧ x < n ∧ x ≠ i
section
variable {w w1 : World} {base g n k : Nat} {mb : Nat → Nat} {K : Nat → List Int}
theorem Adj.lt (h : Adj w base g n k mb K) : g < w.heap.size := by obtain ⟨c, hb, _⟩ := h.row; exact blk_lt hb
theorem Adj.step (h : Adj w base g n k mb K) (h1 : w1.heap[g]? = w.heap[g]?) (h2 : ∀ i, i < k → w1.heap[mb i]? = w.heap[mb i]?) : Adj w1 base g n k mb K := by
  obtain ⟨⟨c, hb, hr⟩, h3, h4, h5, h6, h7, h8⟩ := h
  exact ⟨⟨c, h1.trans hb, hr⟩, h3, h4, h5, h6, fun i hi => (h7 i hi).kept (h2 i hi), h8⟩
theorem Adj.below (h : Adj w base g n k mb K) (hb : Below w.heap.size w w1) : Adj w1 base g n k mb K :=
  h.step (hb.block g h.lt) (fun i hi => hb.block _ (h.maps i hi).lt)
theorem Adj.cell (h : Adj w base g n k mb K) {i : Nat} (hi : i < k) : w.cell? ⟨g, i, none⟩ = some (.map (some (mb i))) := by
  obtain ⟨c, hb, _, hc⟩ := h.row
  exact (blk_cell hb i).trans (hc i hi)
/-- a map of the row has been written -/
theorem Adj.wrote (h : Adj w base g n k mb K) {j : Nat} (hj : j < k) {w2 : World} {ks : List Int} (hg : w.grownBy w2 (some (mb j))) (hm : MSet w2 (mb j) ks) (hks : ∀ x ∈ ks, 0 ≤ x ∧ x < n ∧ x ≠ j) : Adj w2 base g n k mb (fun i => if i = j then ks else K i) := by
  have hlt := h.lt
  obtain ⟨⟨c, hb, hr⟩, h3, h4, h5, h6, h7, h8⟩ := h
  refine ⟨⟨c, (hg.block g hlt (fun e => by have := h5 j hj; injection e with e; omega)).trans hb, hr⟩, h3, h4, h5, h6, fun i hi => ?_, fun i hi => ?_⟩
  · by_cases e : i = j
    · subst e; simp only [if_true]; exact hm
    · simp only [if_neg e]
      exact (h7 i hi).kept (hg.block _ (h7 i hi).lt (fun e2 => e (h6 i j hi hj (by injection e2))))
  · by_cases e : i = j
    · subst e; simp only [if_true]; exact hks
    · simp only [if_neg e]; exact h8 i hi
/-- the next map has been made and stored -/
theorem Adj.more (h : Adj w base g n k mb K) (hk : k < n) : Adj ((w.alloc (.map #[] 0)).setCell ⟨g, k, none⟩ (.map (some w.heap.size))) base g n (k + 1) (fun i => if i = k then w.heap.size else mb i) (fun i => if i = k then [] else K i) := by
  have hlt := h.lt
  obtain ⟨⟨c, hb, hsz, hr⟩, h3, h4, h5, h6, h7, h8⟩ := h
  have hb1 : (w.alloc (.map #[] 0)).heap[g]? = some (.cells c 169 (0, 0)) := blk_alloc hb _
  have hset : ∀ b, b ≠ g → ((w.alloc (.map #[] 0)).setCell ⟨g, k, none⟩ (.map (some w.heap.size))).heap[b]? = (w.alloc (.map #[] 0)).heap[b]? := fun b hne => Below.heap_setCell _ _ _ b hne
  refine ⟨⟨c.setIfInBounds k (.map (some w.heap.size)), ?_, by simp [hsz], fun i hi => ?_⟩, h3, hk, fun i hi => ?_, fun i j hi hj e => ?_, fun i hi => ?_, fun i hi => ?_⟩
  · rw [World.setCell]
    simp only [Array.getElem?_modify, if_true, hb1, Option.map_some]
    rfl
  · rw [Array.getElem?_setIfInBounds]
    by_cases e : i = k
    · subst e; rw [if_pos rfl, if_pos (by omega), if_pos rfl]
    · rw [if_neg (fun h => e h.symm), if_neg e]; exact hr i (by omega)
  · by_cases e : i = k
    · rw [if_pos e]; exact hlt
    · rw [if_neg e]; exact h5 i (by omega)
  · by_cases e1 : i = k
    · by_cases e2 : j = k
      · omega
      · rw [if_pos e1, if_neg e2] at e
        have := (h7 j (by omega)).lt
        omega
    · by_cases e2 : j = k
      · rw [if_neg e1, if_pos e2] at e
        have := (h7 i (by omega)).lt
        omega
      · rw [if_neg e1, if_neg e2] at e
        exact h6 i j (by omega) (by omega) e
  · by_cases e : i = k
    · rw [if_pos e, if_pos e]
      exact (mset_made w).kept (hset _ (by omega))
    · rw [if_neg e, if_neg e]
      have hm := h7 i (by omega)
      exact hm.kept ((hset _ (by have := h5 i (by omega); omega)).trans ((below_alloc (Below.refl _ _) _).block _ hm.lt))
  · by_cases e : i = k
    · rw [if_pos e]; simp
    · rw [if_neg e]; exact h8 i (by omega)
end
theorem info169 : (Try.prog.info? 169).map (fun i => (i.zero, i.size, i.bytes)) = some (some (.map none), 1, 8) := by kernel_rfl
theorem adj_made (w : World) (n : Nat) (mb : Nat → Nat) (K : Nat → List Int) : Adj (w.alloc (.cells (madeCells #[.map none] n) 169)) w.heap.size w.heap.size n 0 mb K :=
  ⟨⟨madeCells #[.map none] n, blk_new w _, by simp [size_madeCells], fun i hi => by omega⟩, Nat.le_refl _, Nat.zero_le _, fun i hi => by omega, fun i j hi => by omega, fun i hi => by omega, fun i hi => by omega⟩
/-- out[i][k], out[k][i] = true, true -/
theorem adj_pair {w : World} {base g n : Nat} {mb : Nat → Nat} {K : Nat → List Int} (h : Adj w base g n n mb K) (i k : Nat) (hi : i < n) (hk : k < n) (hne : k ≠ i) :
    ∃ v1 b1 w1 w2 v2 b2 w3 w4, (Instr.mapEntry 169 (.map (some (mb i))) (.int .i64 (k : Int))).run Try.prog w = .ok (.tuple #[v1, b1]) w1 ∧ (Instr.entryStore 169 (.map (some (mb i))) b1 (.bool true)).run Try.prog w1 = .ok () w2 ∧
      (Instr.mapEntry 169 (.map (some (mb k))) (.int .i64 (i : Int))).run Try.prog w2 = .ok (.tuple #[v2, b2]) w3 ∧ (Instr.entryStore 169 (.map (some (mb k))) b2 (.bool true)).run Try.prog w3 = .ok () w4 ∧
      ∃ K', Adj w4 base g n n mb K' ∧ (∀ B, B ≤ g → Below B w w4) := by
  obtain ⟨v1, b1, w1, r1, m1, g1⟩ := mset_entry (h.maps i hi) (k : Int)
  obtain ⟨w2, r2, m2, g2⟩ := mset_store m1 (.bool true)
  have g12 := g1.trans g2
  have h2 := h.wrote hi g12 m2 (fun x hx => by
    rcases insK_mem.1 hx with rfl | hx
    · omega
    · exact h.keys i hi x hx)
  obtain ⟨v3, b3, w3, r3, m3, g3⟩ := mset_entry (h2.maps k hk) (i : Int)
  obtain ⟨w4, r4, m4, g4⟩ := mset_store m3 (.bool true)
  have g34 := g3.trans g4
  have h4 := h2.wrote hk g34 m4 (fun x hx => by
    rcases insK_mem.1 hx with rfl | hx
    · omega
    · exact h2.keys k hk x hx)
  refine ⟨v1, _, w1, w2, v3, _, w3, w4, r1, r2, r3, r4, _, h4, fun B hB => ?_⟩
  have hlt := h.lt
  have e1 : Below B w w2 := (Below.refl B w).grown g12 (by omega) (fun j e => by injection e with e; have := h.mbase i hi; omega)
  have hs2 := g12.size
  exact e1.grown g34 (by omega) (fun j e => by injection e with e; have := h.mbase k hk; omega)
end Go.Proofs.Ytadaopfcgpfiiaa
namespace Go.Proofs.Ytadaopfcgpfiiaa
open Go.RowKit Go.Proofs.YtadaopfcgpfiiaaW.PrintWords Go.Proofs.YtadaopfcgpfiiaaW.PrintLast Go.Proofs.YtadaopfcgpfiiaaW.PrintMore PCg
set_option linter.unusedVariables false
set_option linter.unusedSimpArgs false
def rdRow (xs : List (List Int)) (i : Int) : List Int := xs.getD i.toNat []
abbrev kRows : Kd (List Int) := Kd.slice 3 (Kd.int .i64)
theorem rows_at {w : World} {A : Option Addr} {n : Nat} {xs : List (List Int)} (h : Kd.C kRows w A n xs) (i : Int) (h0 : 0 ≤ i) (h1 : i < n) :
    ∃ ad A0 c0, A = some ad ∧ w.cell? (ad.add i.toNat) = some (.slice A0 (rdRow xs i).length c0) ∧ (rdRow xs i).length ≤ c0 ∧ Kd.C (Kd.int .i64) w A0 (rdRow xs i).length (rdRow xs i) := by
  obtain ⟨ad, c, e, _, hK, hc0⟩ := Kd.C_get h ([] : List Int) i h0 h1
  obtain ⟨A0, c0, rfl, l0, g0⟩ := hK
  have h2 := hc0 0 _ rfl
  refine ⟨ad, A0, c0, e, ?_, l0, g0⟩
  have e2 : i.toNat * kRows.sz + 0 = i.toNat := by simp [kRows, Kd.slice]
  rw [e2] at h2
  exact h2
theorem alloc_setCell_old {w : World} {g i : Nat} (h : g < w.heap.size) {o : Obj} {u : Value} : (w.alloc o).setCell ⟨g, i, none⟩ u = (w.setCell ⟨g, i, none⟩ u).alloc o := by
  unfold World.setCell World.alloc
  simp only [World.mk.injEq, and_true]
  apply Array.ext_getElem?
  intro j
  simp only [Array.getElem?_modify, Array.getElem?_push, Array.size_modify]
  by_cases e1 : g = j
  · subst e1
    simp only [if_true, if_neg (show ¬ g = w.heap.size by omega)]
  · simp only [if_neg e1]
def AdjPost (n : Nat) (w : World) (e : Ending) (w' : World) : Prop := ∃ g mb K, e = .returned (.slice (some ⟨g, 0, none⟩) n n) ∧ Adj w' w.heap.size g n n mb K ∧ Below w.heap.size w w'
set_option maxRecDepth 100000 in
set_option maxHeartbeats 2000000 in
theorem neighbors_any (A : Option Addr) (c : Nat) (edges : List (List Int)) (w : World) (hr : Kd.C kRows w A edges.length edges) (hcp : edges.length ≤ c) (hm : edges.length ≤ 10000) :
    Calls Try.prog 72 #[.slice A edges.length c] w (AdjPost edges.length w) := by
  have HR := Aside0.mk hr; clear hr
  have hmk : ∀ W : World, (Instr.makeSlice 165 (.int .i64 (edges.length : Int)) (.int .i64 (edges.length : Int))).run Try.prog W = .ok (.slice (some ⟨W.heap.size, 0, none⟩) edges.length edges.length) (W.alloc (.cells (madeCells #[.map none] edges.length) 169)) :=
    run_make_row' 165 169 (.map none) 8 Try.underlying165 info169 rfl .i64 .i64 edges.length (by omega) (by omega)
  have HA0 := Aside0.mk (adj_made w edges.length (fun _ => 0) (fun _ => []))
  have HB0 := Aside0.mk (below_alloc (Below.refl w.heap.size w) (.cells (madeCells #[.map none] edges.length) 169))
  go_enter Try.func72, Try.ntmps72
  go_wp2_with fail
  go_loopw [14] (fun i wr => ∃ k : Int, i = .int .i64 k ∧ 0 ≤ k ∧ k ≤ edges.length ∧ Aside0 (∃ mb K, Adj wr w.heap.size w.heap.size edges.length k.toNat mb K) ∧ Aside0 (Below w.heap.size w wr)) (fun i wr => edges.length - (intOf i).toNat)
  case atStart => exact ⟨0, rfl, Int.le_refl _, by omega, ⟨_, _, HA0.out⟩, HB0⟩
  case round =>
    obtain ⟨k, rfl, hk0, hk, ⟨mb, K, hA⟩, HB⟩ := hrel
    have HA := Aside0.mk hA; clear hA
    by_cases hlt : k < edges.length
    · have p1 := eq_true hk0
      have q1 := eq_true hlt
      have hmm : (Instr.makeMap 169 none).run Try.prog wr = .ok (.map (some wr.heap.size)) (wr.alloc (.map #[] 0)) := by rfl
      have hl := HA.out.lt
      have HA1 := HA.out.more (by omega)
      rw [alloc_setCell_old hl] at HA1
      have HA2 := Aside0.mk HA1; clear HA1
      obtain ⟨cs, hb, hsz, _⟩ := HA.out.row
      obtain ⟨v0, hv0⟩ : ∃ v0, cs[k.toNat]? = some v0 := ⟨_, Array.getElem?_eq_getElem (show k.toNat < cs.size by omega)⟩
      have hc : (wr.alloc (.map #[] 0)).cell? ⟨w.heap.size, k.toNat, none⟩ = some v0 := (blk_cell (blk_alloc hb _) k.toNat).trans hv0
      have hf : (wr.alloc (.map #[] 0)).frozen? ⟨w.heap.size, k.toNat, none⟩ = false := by simp [World.frozen?, blk_alloc hb (.map #[] 0)]
      clear hb hsz hv0
      go_wp2
      go_roundw
      case rel => exact ⟨k + 1, rfl, by omega, by omega, ⟨_, _, by rw [show (k + 1).toNat = k.toNat + 1 from by omega]; exact HA2.out⟩, ⟨(HB.out.setCell (p := ⟨w.heap.size, k.toNat, none⟩) (Nat.le_refl _) _).alloc (by simp; omega) _⟩⟩
      case measure => simp [intOf]; omega
    · obtain rfl : k = edges.length := by omega
      clear hlt
      go_wp2_with fail
      obtain ⟨w8, rfl⟩ : ∃ w8 : World, w8 = wr := ⟨_, rfl⟩
      go_loopw [24] (fun i wr => ∃ k : Int, i = .int .i64 k ∧ 0 ≤ k ∧ k ≤ edges.length ∧ Aside0 (∃ K, Adj wr w.heap.size w.heap.size edges.length edges.length mb K) ∧ Aside0 (Below w.heap.size w wr)) (fun i wr => edges.length - (intOf i).toNat)
      case atStart => exact ⟨0, rfl, Int.le_refl _, by omega, ⟨K, HA.out⟩, HB⟩
      case round =>
        clear HA HB hk0 hk
        obtain ⟨k, rfl, hk0, hk, ⟨K, hA⟩, HB⟩ := hrel
        have HA := Aside0.mk hA; clear hA
        by_cases hlt : k < edges.length
        · have p1 := eq_true hk0
          have q1 := eq_true hlt
          obtain ⟨ad, A5, c5, hA5, h0, hl5, hr5⟩ := rows_at HR.out k hk0 hlt
          cases hA5
          replace h0 := (HB.out.cell (World.block_lt_of_cell? w _ h0)).trans h0
          have hlm : (rdRow edges k).length ≤ 9223372036854775807 := hr5.2.1
          have HR5 := Aside0.mk hr5; clear hr5
          go_wp2_with fail
          go_loopw [31] (fun i wr => ∃ k2 : Int, i = .int .i64 k2 ∧ 0 ≤ k2 ∧ k2 ≤ (rdRow edges k).length ∧ Aside0 (∃ K, Adj wr w.heap.size w.heap.size edges.length edges.length mb K) ∧ Aside0 (Below w.heap.size w wr)) (fun i wr => (rdRow edges k).length - (intOf i).toNat)
          case atStart => exact ⟨0, rfl, Int.le_refl _, by omega, ⟨K, HA.out⟩, HB⟩
          case round =>
            clear HA HB h0
            obtain ⟨k2, rfl, hk20, hk2, ⟨K, hA⟩, HB⟩ := hrel
            have HA := Aside0.mk hA; clear hA
            by_cases hlt2 : k2 < (rdRow edges k).length
            · have p2 := eq_true hk20
              have q2 := eq_true hlt2
              obtain ⟨ad6, hA6, i0⟩ := Kd.at_int HR5.out k2 hk20 hlt2
              cases hA6
              replace i0 := (HB.out.cell (World.block_lt_of_cell? w _ i0)).trans i0
              generalize rd (rdRow edges k) k2 = x at *
              by_cases x0 : x < 0
              · go_wp2
                go_roundw
                case rel => exact ⟨k2 + 1, rfl, by omega, by omega, ⟨K, HA.out⟩, HB⟩
                case measure => simp [intOf]; omega
              · have x0' : 0 ≤ x := by omega
                by_cases x1 : x < edges.length
                · by_cases x2 : x = k
                  · subst x2
                    go_wp2
                    go_roundw
                    case rel => exact ⟨k2 + 1, rfl, by omega, by omega, ⟨K, HA.out⟩, HB⟩
                    case measure => simp [intOf]; omega
                  · have x2b : (x == k) = false := beq_eq_false_iff_ne.2 x2
                    have x2c : (x != k) = true := by simp [bne, x2b]
                    have y0 := HA.out.cell (i := k.toNat) (by omega)
                    have y1 := HA.out.cell (i := x.toNat) (by omega)
                    go_wp2_with fail
                    obtain ⟨v1, b1, w1, w2, v2, b2, w3, w4, r1, r2, r3, r4, K', hK', hB4⟩ := adj_pair (HA.out.below (below_drew (Below.refl _ wr))) k.toNat x.toNat (by omega) (by omega) (by omega)
                    rw [show ((k.toNat : Nat) : Int) = k from by omega] at r3
                    rw [show ((x.toNat : Nat) : Int) = x from by omega] at r1
                    have HA4 := Aside0.mk hK'
                    have HB4 := Aside0.mk (HB.out.trans ((below_drew (Below.refl w.heap.size wr)).trans (hB4 _ (Nat.le_refl _))))
                    clear hK' hB4
                    go_region
                    all_goals
                      go_wp2
                      go_roundw
                      case rel => exact ⟨k2 + 1, rfl, by omega, by omega, ⟨_, HA4.out⟩, HB4⟩
                      case measure => simp [intOf]; omega
                · go_wp2
                  go_roundw
                  case rel => exact ⟨k2 + 1, rfl, by omega, by omega, ⟨K, HA.out⟩, HB⟩
                  case measure => simp [intOf]; omega
            · go_wp2
              go_roundw
              case rel => exact ⟨k + 1, rfl, by omega, by omega, ⟨_, HA.out⟩, HB⟩
              case measure => simp [intOf]; omega
        · go_wp2
          go_ret
          exact ⟨_, _, _, rfl, HA.out, HB.out⟩
end Go.Proofs.Ytadaopfcgpfiiaa
namespace Go.Proofs.Ytadaopfcgpfiiaa
open Go.RowKit Go.Proofs.YtadaopfcgpfiiaaW.PrintWords Go.Proofs.YtadaopfcgpfiiaaW.PrintLast Go.Proofs.YtadaopfcgpfiiaaW.PrintMore PCg
set_option linter.unusedVariables false
set_option linter.unusedSimpArgs false
/-- block g of w holds the numbers ds -/
def IntBlk (w : World) (g : Nat) (ds : List Int) : Prop := w.heap[g]? = some (.cells (nums .i64 ds).toArray 3 (0, 0))
def BoolBlk (w : World) (g : Nat) (bs : List Bool) : Prop := w.heap[g]? = some (.cells (bools bs).toArray 4 (0, 0))
section
variable {w w1 : World} {g : Nat} {ds : List Int} {bs : List Bool}
theorem IntBlk.lt (h : IntBlk w g ds) : g < w.heap.size := blk_lt h
theorem BoolBlk.lt (h : BoolBlk w g bs) : g < w.heap.size := blk_lt h
theorem IntBlk.step (h : IntBlk w g ds) (h1 : w1.heap[g]? = w.heap[g]?) : IntBlk w1 g ds := h1.trans h
theorem BoolBlk.step (h : BoolBlk w g bs) (h1 : w1.heap[g]? = w.heap[g]?) : BoolBlk w1 g bs := h1.trans h
theorem IntBlk.below (h : IntBlk w g ds) (hb : Below w.heap.size w w1) : IntBlk w1 g ds := h.step (hb.block _ h.lt)
theorem BoolBlk.below (h : BoolBlk w g bs) (hb : Below w.heap.size w w1) : BoolBlk w1 g bs := h.step (hb.block _ h.lt)
theorem IntBlk.cell (h : IntBlk w g ds) (i : Int) (h0 : 0 ≤ i) (h1 : i < ds.length) : w.cell? ⟨g, i.toNat, none⟩ = some (.int .i64 (rd ds i)) := by
  refine (blk_cell h i.toNat).trans ?_
  have : i.toNat < ds.length := by omega
  simp [nums, rd, List.getD_eq_getElem?_getD, List.getElem?_eq_getElem this]
theorem BoolBlk.cell (h : BoolBlk w g bs) (i : Int) (h0 : 0 ≤ i) (h1 : i < bs.length) : w.cell? ⟨g, i.toNat, none⟩ = some (.bool (bs.getD i.toNat false)) := by
  refine (blk_cell h i.toNat).trans ?_
  have : i.toNat < bs.length := by omega
  simp [bools, List.getD_eq_getElem?_getD, List.getElem?_eq_getElem this]
theorem IntBlk.free (h : IntBlk w g ds) (i : Nat) : w.frozen? ⟨g, i, none⟩ = false := by simp [World.frozen?, show w.heap[g]? = _ from h]
theorem BoolBlk.free (h : BoolBlk w g bs) (i : Nat) : w.frozen? ⟨g, i, none⟩ = false := by simp [World.frozen?, show w.heap[g]? = _ from h]
theorem IntBlk.set (h : IntBlk w g ds) (i : Nat) (x : Int) : IntBlk (w.setCell ⟨g, i, none⟩ (.int .i64 x)) g (ds.set i x) := by
  unfold IntBlk at *
  rw [World.setCell]
  simp only [Array.getElem?_modify, if_true, h, Option.map_some]
  simp [nums, List.map_set]
theorem BoolBlk.set (h : BoolBlk w g bs) (i : Nat) (x : Bool) : BoolBlk (w.setCell ⟨g, i, none⟩ (.bool x)) g (bs.set i x) := by
  unfold BoolBlk at *
  rw [World.setCell]
  simp only [Array.getElem?_modify, if_true, h, Option.map_some]
  simp [bools, List.map_set]
theorem IntBlk.far (h : IntBlk w g ds) {b i : Nat} (hne : g ≠ b) (u : Value) : IntBlk (w.setCell ⟨b, i, none⟩ u) g ds := h.step (Below.heap_setCell w _ u g hne)
theorem BoolBlk.far (h : BoolBlk w g bs) {b i : Nat} (hne : g ≠ b) (u : Value) : BoolBlk (w.setCell ⟨b, i, none⟩ u) g bs := h.step (Below.heap_setCell w _ u g hne)
theorem intBlk_made (w : World) (n : Nat) : IntBlk (w.alloc (.cells (madeCells #[.int .i64 0] n) 3)) w.heap.size (List.replicate n 0) := by
  unfold IntBlk
  rw [blk_new]
  congr 2
  apply Array.toList_inj.1
  apply List.ext_getElem
  · simp [nums, madeCells]
  · intro i h1 h2
    simp [nums, madeCells, Nat.mod_one]
theorem boolBlk_made (w : World) (n : Nat) : BoolBlk (w.alloc (.cells (madeCells #[.bool false] n) 4)) w.heap.size (List.replicate n false) := by
  unfold BoolBlk
  rw [blk_new]
  congr 2
  apply Array.toList_inj.1
  apply List.ext_getElem
  · simp [bools, madeCells]
  · intro i h1 h2
    simp [bools, madeCells, Nat.mod_one]
end
theorem info4 : (Try.prog.info? 4).map (fun i => (i.zero, i.size, i.bytes)) = some (some (.bool false), 1, 1) := by kernel_rfl
theorem make_ints (n : Nat) (h : n ≤ 1000000) (W : World) : (Instr.makeSlice 37 (.int .i64 (n : Int)) (.int .i64 (n : Int))).run Try.prog W = .ok (.slice (some ⟨W.heap.size, 0, none⟩) n n) (W.alloc (.cells (madeCells #[.int .i64 0] n) 3)) :=
  run_make_row' 37 3 (.int .i64 0) 8 Try.underlying37 info3 rfl .i64 .i64 n (by omega) (by omega) W
theorem make_bools (n : Nat) (h : n ≤ 1000000) (W : World) : (Instr.makeSlice 192 (.int .i64 (n : Int)) (.int .i64 (n : Int))).run Try.prog W = .ok (.slice (some ⟨W.heap.size, 0, none⟩) n n) (W.alloc (.cells (madeCells #[.bool false] n) 4)) :=
  run_make_row' 192 4 (.bool false) 1 Try.underlying192 info4 rfl .i64 .i64 n (by omega) (by omega) W
def goneAt (bs : List Bool) (i : Nat) : Bool := bs.getD i false
theorem goneAt_set {bs : List Bool} {p i : Nat} (hp : p < bs.length) : goneAt (bs.set p true) i = (goneAt bs i || decide (i = p)) := by
  unfold goneAt
  simp only [List.getD_eq_getElem?_getD, List.getElem?_set]
  by_cases e : p = i
  · subst e; rw [if_pos rfl, if_pos hp]; simp
  · rw [if_neg e]; simp [show ¬ i = p from fun h => e h.symm]
/-- the ones that are gone are those in order, each once -/
structure Gone (n : Nat) (bs : List Bool) (order : List Int) : Prop where
  len : bs.length = n
  iff : ∀ i, i < n → (goneAt bs i = true ↔ (i : Int) ∈ order)
  range : ∀ x ∈ order, 0 ≤ x ∧ x < n
  cnt : bs.count false + order.length = n
theorem gone_start (n : Nat) : Gone n (List.replicate n false) [] := by
  refine ⟨by simp, fun i hi => ?_, by simp, by simp⟩
  simp [goneAt, List.getD_eq_getElem?_getD, hi]
theorem count_set_false : ∀ (bs : List Bool) (p : Nat), p < bs.length → bs.getD p false = false → (bs.set p true).count false + 1 = bs.count false := by
  intro bs
  induction bs with
  | nil => intro p hp; simp at hp
  | cons b bs ih =>
    intro p hp h
    cases p with
    | zero =>
      have : b = false := by simpa using h
      subst this
      simp
    | succ p =>
      have := ih p (by simpa using hp) (by simpa using h)
      rw [List.set_cons_succ]
      cases b <;> simp [List.count_cons] <;> omega
theorem Gone.pick {n : Nat} {bs : List Bool} {order : List Int} (h : Gone n bs order) {p : Int} (h0 : 0 ≤ p) (h1 : p < n) (hg : goneAt bs p.toNat = false) : Gone n (bs.set p.toNat true) (order ++ [p]) := by
  obtain ⟨hl, hi, hr, hc⟩ := h
  have hp : p.toNat < bs.length := by omega
  refine ⟨by simp [hl], fun i hin => ?_, fun x hx => ?_, ?_⟩
  · rw [goneAt_set hp]
    simp only [Bool.or_eq_true, decide_eq_true_eq, List.mem_append, List.mem_singleton, hi i hin]
    constructor
    · rintro (h | h)
      · exact .inl h
      · exact .inr (by omega)
    · rintro (h | h)
      · exact .inl h
      · exact .inr (by omega)
  · rcases List.mem_append.1 hx with hx | hx
    · exact hr x hx
    · simp at hx; omega
  · have := count_set_false bs p.toNat hp hg
    simp; omega
theorem count_false_pos : ∀ (bs : List Bool), 0 < bs.count false → ∃ i, i < bs.length ∧ bs.getD i false = false := by
  intro bs
  induction bs with
  | nil => intro h; simp at h
  | cons b bs ih =>
    intro h
    cases b with
    | false => exact ⟨0, by simp, rfl⟩
    | true =>
      obtain ⟨i, hi, h2⟩ := ih (by simpa using h)
      exact ⟨i + 1, by simpa using hi, by simpa using h2⟩
theorem Gone.left {n : Nat} {bs : List Bool} {order : List Int} (h : Gone n bs order) (hlt : order.length < n) : ∃ i, i < n ∧ goneAt bs i = false := by
  obtain ⟨i, hi, h2⟩ := count_false_pos bs (by have := h.cnt; omega)
  exact ⟨i, by have := h.len; omega, h2⟩
theorem Gone.all {n : Nat} {bs : List Bool} {order : List Int} (h : Gone n bs order) (hge : n ≤ order.length) (i : Nat) (hi : i < n) : (i : Int) ∈ order := by
  refine (h.iff i hi).1 ?_
  have hc : bs.count false = 0 := by have := h.cnt; omega
  have hn := List.count_eq_zero.1 hc
  unfold goneAt
  rw [List.getD_eq_getElem?_getD, List.getElem?_eq_getElem (by have := h.len; omega)]
  simp only [Option.getD_some]
  cases hb : bs[i]'(by have := h.len; omega) with
  | true => rfl
  | false => exact absurd (hb ▸ List.getElem_mem (h := by have := h.len; omega)) hn
end Go.Proofs.Ytadaopfcgpfiiaa
namespace Go.Proofs.Ytadaopfcgpfiiaa
open Go.RowKit Go.Proofs.YtadaopfcgpfiiaaW.PrintWords Go.Proofs.YtadaopfcgpfiiaaW.PrintLast Go.Proofs.YtadaopfcgpfiiaaW.PrintMore PCg
set_option linter.unusedVariables false
set_option linter.unusedSimpArgs false
def OrderPost (n : Nat) (w : World) (e : Ending) (w' : World) : Prop :=
  ∃ v order, e = .returned v ∧ Kd.R (Kd.int .i64) 3 w' w.heap.size (fun _ => True) v order ∧ Below w.heap.size w w' ∧ order.length = n ∧ (∀ x ∈ order, 0 ≤ x ∧ x < n) ∧ (∀ i, i < n → (i : Int) ∈ order)
/-- what remove's loops keep: its three rows, and that all else is as it was -/
structure RemSt (w wr : World) (n : Nat) (ds : List Int) (bs : List Bool) : Prop where
  below : Below w.heap.size w wr
  deg : IntBlk wr w.heap.size ds
  gone : BoolBlk wr (w.heap.size + 1) bs
  dlen : ds.length = n
section
variable {w wr w1 : World} {n : Nat} {ds : List Int} {bs : List Bool}
theorem RemSt.step (h : RemSt w wr n ds bs) (hb : Below wr.heap.size wr w1) : RemSt w w1 n ds bs :=
  ⟨below_step h.below hb, h.deg.below hb, h.gone.below hb, h.dlen⟩
theorem RemSt.grown (h : RemSt w wr n ds bs) {row : Option Nat} (hg : wr.grownBy w1 row) (hr : ∀ k, row = some k → w.heap.size + 2 ≤ k) : RemSt w w1 n ds bs := by
  have h1 := h.gone.lt
  exact ⟨h.below.grown hg (by omega) (fun k e => by have := hr k e; omega), h.deg.step (hg.block _ h.deg.lt (fun e => by have := hr _ e.symm; omega)), h.gone.step (hg.block _ h.gone.lt (fun e => by have := hr _ e.symm; omega)), h.dlen⟩
theorem RemSt.setDeg (h : RemSt w wr n ds bs) (i : Nat) (x : Int) : RemSt w (wr.setCell ⟨w.heap.size, i, none⟩ (.int .i64 x)) n (ds.set i x) bs :=
  ⟨h.below.setCell (p := ⟨w.heap.size, i, none⟩) (Nat.le_refl _) _, h.deg.set i x, h.gone.far (by omega) _, by simp [h.dlen]⟩
theorem RemSt.setGone (h : RemSt w wr n ds bs) (i : Nat) (x : Bool) : RemSt w (wr.setCell ⟨w.heap.size + 1, i, none⟩ (.bool x)) n ds (bs.set i x) :=
  ⟨h.below.setCell (p := ⟨w.heap.size + 1, i, none⟩) (Nat.le_succ _) _, h.deg.far (by omega) _, h.gone.set i x, h.dlen⟩
theorem remSt_start (w : World) (n : Nat) : RemSt w ((w.alloc (.cells (madeCells #[.int .i64 0] n) 3)).alloc (.cells (madeCells #[.bool false] n) 4)) n (List.replicate n 0) (List.replicate n false) := by
  have h2 := boolBlk_made (w.alloc (.cells (madeCells #[.int .i64 0] n) 3)) n
  rw [World.size_alloc] at h2
  exact ⟨below_alloc (below_alloc (Below.refl _ _) _) _, (intBlk_made w n).below (below_alloc (Below.refl _ _) _), h2, by simp⟩
end
structure PickRel (w5 : World) (n : Nat) (bs : List Bool) (q k3 : Int) (wr : World) : Prop where
  k0 : 0 ≤ k3
  k1 : k3 ≤ n
  q0 : -1 ≤ q
  q1 : q < n
  yes : 0 ≤ q → goneAt bs q.toNat = false
  no : q = -1 → ∀ j : Nat, (j : Int) < k3 → goneAt bs j = true
  below : Below w5.heap.size w5 wr
theorem remOrder {w W : World} {v : Value} {xs : List Int} (h : Kd.R (Kd.int .i64) 3 W w.heap.size (fun b => w.heap.size + 2 ≤ b) v xs) (i : Nat) (x : Bool) :
    Kd.R (Kd.int .i64) 3 (W.setCell ⟨w.heap.size + 1, i, none⟩ (.bool x)) w.heap.size (fun b => w.heap.size + 2 ≤ b) v xs :=
  Kd.R_step h (fun k hk _ => Below.heap_setCell W _ _ k (by simp; omega))
section
variable {ops : Array Oper} {rest : List Oper} {o : Oper} {a : Act} {Q : Exit → Act → World → Prop} {w : World}
theorem wpList_len_mset (hg : o.guard = none) (m : Operand) (hop : o.op = Op.call { callee := Callee.builtin Builtin.len, args := #[m], argTypes := #[169] })
    (b : Nat) (es : Array MapEntry) (cl : Nat) (hm : a.eval m = .map (some b)) (hb : w.heap[b]? = some (.map es cl)) (hK : wpList Try.prog ops Q rest (a.put o.dst (.int .i64 es.size)) w) :
    wpList Try.prog ops Q (o :: rest) a w := by
  refine wpList_plain hg fun K' hK' => ?_
  have hl : (Builtin.len_ #[169] o.type #[.map (some b)]).run Try.prog w = .ok (.int .i64 es.size) w := by
    simp [Builtin.len_, run_underlying Try.underlying169, MapKept.run_getObj_map hb, goInt, Result.andThen]
  unfold Oper.wp
  simp [execOp, hop, resolve, invoke, builtin, hm, hl, Result.andThen]
  exact hK' _ _ hK
end
set_option maxRecDepth 100000 in
set_option maxHeartbeats 600000 in
theorem remove_any (base g n : Nat) (mb : Nat → Nat) (K : Nat → List Int) (colors : Int) (w : World) (hA : Adj w base g n n mb K) (hn : n ≤ 10000) :
    Calls Try.prog 73 #[.slice (some ⟨g, 0, none⟩) n n, .int .i64 colors] w (OrderPost n w) := by
  have HA := Aside0.mk hA; clear hA
  have hmk := make_ints n (by omega)
  have hmk2 := make_bools n (by omega)
  have HS0 := Aside0.mk (remSt_start w n)
  go_enter Try.func73, Try.ntmps73
  go_wp2_with fail
  go_loopw [21] (fun i wr => ∃ k : Int, i = .int .i64 k ∧ 0 ≤ k ∧ k ≤ n ∧ Aside0 (∃ ds, RemSt w wr n ds (List.replicate n false))) (fun i wr => n - (intOf i).toNat)
  case atStart => exact ⟨0, rfl, Int.le_refl _, by omega, ⟨_, HS0.out⟩⟩
  case round =>
    obtain ⟨k, rfl, hk0, hk, ⟨ds, hS⟩⟩ := hrel
    have HS := Aside0.mk hS; clear hS
    by_cases hlt : k < n
    · have p1 := eq_true hk0
      have q1 := eq_true hlt
      have HAr := Aside0.mk (HA.out.below HS.out.below)
      have y0 := HAr.out.cell (i := k.toNat) (by omega)
      obtain ⟨es, cl, hmb, _⟩ := HAr.out.maps k.toNat (by omega)
      have c0 := HS.out.deg.cell k hk0 (by have := HS.out.dlen; omega)
      have f0 := HS.out.deg.free k.toNat
      have HMB := Aside0.mk hmb
      clear hmb
      go_wp2_with (at_len; refine wpList_len_mset rfl (.tmp 28) rfl (mb k.toNat) es cl rfl HMB.out ?_)
      go_roundw
      case rel => exact ⟨k + 1, rfl, by omega, by omega, ⟨_, HS.out.setDeg _ _⟩⟩
      case measure => simp [intOf]; omega
    · obtain rfl : k = n := by omega
      clear hlt
      go_wp2_with fail
      go_loopw [9, 34] (fun v i wr => ∃ k : Int, i = .int .i64 k ∧ 0 ≤ k ∧ k ≤ n ∧ Aside0 (∃ ds bs order, RemSt w wr n ds bs ∧ Gone n bs order ∧ (order.length : Int) = k ∧ Kd.R (Kd.int .i64) 3 wr w.heap.size (fun b => w.heap.size + 2 ≤ b) v order)) (fun _ i wr => n - (intOf i).toNat)
      case atStart => exact ⟨0, rfl, Int.le_refl _, by omega, ⟨_, _, _, HS.out, gone_start n, rfl, Kd.R_nil _ _ _ _ _⟩⟩
      case round =>
        clear HS
        obtain ⟨k, rfl, hk0, hk, ⟨ds, bs, order, hS, hG, hol, hO⟩⟩ := hrel
        have HS := Aside0.mk hS; have HG := Aside0.mk hG; have HO := Aside0.mk hO; have HOL := Aside0.mk hol
        clear hS hG hO hol
        obtain ⟨Av, cv, hv⟩ := Kd.R_slice HO.out
        subst hv
        by_cases hlt : k < n
        · go_wp2_with fail
          obtain ⟨w5, rfl⟩ : ∃ w5 : World, w5 = wr := ⟨_, rfl⟩
          go_loopw [10, 38] (fun p i wr => ∃ q k3 : Int, p = .int .i64 q ∧ i = .int .i64 k3 ∧ 0 ≤ k3 ∧ k3 ≤ n ∧ -1 ≤ q ∧ q < n ∧ Aside0 (0 ≤ q → goneAt bs q.toNat = false) ∧ Aside0 (q = -1 → ∀ j : Nat, (j : Int) < k3 → goneAt bs j = true) ∧ Aside0 (Below w5.heap.size w5 wr)) (fun _ i wr => n - (intOf i).toNat)
          case atStart => exact ⟨-1, 0, rfl, rfl, Int.le_refl _, by omega, by omega, by omega, ⟨fun h => by omega⟩, ⟨fun _ j hj => by omega⟩, ⟨Below.refl _ _⟩⟩
          case round =>
            obtain ⟨q, k3, rfl, rfl, hk30, hk3, hq0, hq1, HQ, HN, HB3⟩ := hrel
            by_cases hlt3 : k3 < n
            · have p3 := eq_true hk30
              have q3 := eq_true hlt3
              have HSr := Aside0.mk (HS.out.step HB3.out)
              have c0 := HSr.out.deg.cell k3 hk30 (by have := HSr.out.dlen; omega)
              have g0 := HSr.out.gone.cell k3 hk30 (by have := HG.out.len; omega)
              cases hgk : bs.getD k3.toNat false with
              | true =>
                rw [hgk] at g0
                have HGK := Aside0.mk hgk; clear hgk
                go_wp2
                go_roundw
                case rel =>
                  refine ⟨q, k3 + 1, rfl, rfl, by omega, by omega, hq0, hq1, HQ, ⟨fun h j hj => ?_⟩, HB3⟩
                  by_cases e : (j : Int) < k3
                  · exact HN.out h j e
                  · obtain rfl : j = k3.toNat := by omega
                    exact HGK.out
                case measure => simp [intOf]; omega
              | false =>
                rw [hgk] at g0
                have HGK := Aside0.mk hgk; clear hgk
                have HK1 : Aside0 (∀ wr', Below w5.heap.size w5 wr' → PickRel w5 n bs k3 (k3 + 1) wr') := ⟨fun wr' h => ⟨by omega, by omega, by omega, by omega, fun _ => HGK.out, fun h => by omega, h⟩⟩
                have HK2 : Aside0 (0 ≤ q → ∀ wr', Below w5.heap.size w5 wr' → PickRel w5 n bs q (k3 + 1) wr') := ⟨fun hq wr' h => ⟨by omega, by omega, by omega, by omega, HQ.out, fun h => by omega, h⟩⟩
                generalize rd ds k3 = dk at *
                by_cases hd : dk < colors
                · by_cases hqn : q < 0
                  · go_wp2
                    go_roundw
                    case rel => obtain ⟨r1, r2, r3, r4, r5, r6, r7⟩ := HK1.out _ HB3.out; exact ⟨k3, k3 + 1, rfl, rfl, r1, r2, r3, r4, ⟨r5⟩, ⟨r6⟩, ⟨r7⟩⟩
                    case measure => simp [intOf]; omega
                  · have hq2 : 0 ≤ q := by omega
                    have c1 := HSr.out.deg.cell q hq2 (by have := HSr.out.dlen; omega)
                    go_wp2
                    all_goals go_roundw
                    all_goals first
                      | (case rel => obtain ⟨r1, r2, r3, r4, r5, r6, r7⟩ := HK1.out _ HB3.out; exact ⟨k3, k3 + 1, rfl, rfl, r1, r2, r3, r4, ⟨r5⟩, ⟨r6⟩, ⟨r7⟩⟩)
                      | (case rel => obtain ⟨r1, r2, r3, r4, r5, r6, r7⟩ := HK2.out hq2 _ HB3.out; exact ⟨q, k3 + 1, rfl, rfl, r1, r2, r3, r4, ⟨r5⟩, ⟨r6⟩, ⟨r7⟩⟩)
                      | (case measure => simp [intOf]; omega)
                · by_cases hqn : q < 0
                  · have hqb : decide (q < 0) = true := decide_eq_true hqn
                    go_wp2_with fail
                    go_quiet (fail)
                    go_wp2
                    go_roundw
                    case rel => obtain ⟨r1, r2, r3, r4, r5, r6, r7⟩ := HK1.out _ (pw_below_drewN HB3.out _); exact ⟨k3, k3 + 1, rfl, rfl, r1, r2, r3, r4, ⟨r5⟩, ⟨r6⟩, ⟨r7⟩⟩
                    case measure => simp [intOf]; omega
                  · have hq2 : 0 ≤ q := by omega
                    have c1 := HSr.out.deg.cell q hq2 (by have := HSr.out.dlen; omega)
                    generalize rd ds q = dq at *
                    by_cases hd2 : colors ≤ dq
                    · have hd2b : decide (colors ≤ dq) = true := decide_eq_true hd2
                      by_cases hd3 : dq < dk
                      all_goals
                        go_wp2_with fail
                        go_quiet (fail)
                        go_wp2
                        go_roundw
                        first
                          | (case rel => obtain ⟨r1, r2, r3, r4, r5, r6, r7⟩ := HK1.out _ (pw_below_drewN HB3.out _); exact ⟨k3, k3 + 1, rfl, rfl, r1, r2, r3, r4, ⟨r5⟩, ⟨r6⟩, ⟨r7⟩⟩)
                          | (case rel => obtain ⟨r1, r2, r3, r4, r5, r6, r7⟩ := HK2.out hq2 _ (pw_below_drewN HB3.out _); exact ⟨q, k3 + 1, rfl, rfl, r1, r2, r3, r4, ⟨r5⟩, ⟨r6⟩, ⟨r7⟩⟩)
                        case measure => simp [intOf]; omega
                    · have hd4 : dq < colors := by omega
                      have hd2b : decide (colors ≤ dq) = false := decide_eq_false hd2
                      have hqb : decide (q < 0) = false := decide_eq_false hqn
                      clear hd2
                      go_wp2_with fail
                      go_region
                      all_goals
                        go_wp2
                        go_roundw
                        case rel => obtain ⟨r1, r2, r3, r4, r5, r6, r7⟩ := HK2.out hq2 _ (below_drew HB3.out); exact ⟨q, k3 + 1, rfl, rfl, r1, r2, r3, r4, ⟨r5⟩, ⟨r6⟩, ⟨r7⟩⟩
                        case measure => simp [intOf]; omega
            · have HE3 := Aside0.mk (show k3 = n by omega)
              have HQP : 0 ≤ q := by
                rcases Int.lt_or_le q 0 with h | h
                · exfalso
                  obtain ⟨i, hi, hgi⟩ := HG.out.left (by have := HOL.out; omega)
                  have := HN.out (by omega) i (by have := HE3.out; omega)
                  rw [this] at hgi; cases hgi
                · exact h
              have HGQ := Aside0.mk (HQ.out HQP)
              clear HQ HN
              have HSr := Aside0.mk (HS.out.step HB3.out)
              have g0 := HSr.out.gone.cell q HQP (by have := HG.out.len; omega)
              have f0 := HSr.out.gone.free q.toNat
              have HS6 := Aside0.mk (HSr.out.setGone q.toNat true)
              have HG6 := Aside0.mk (HG.out.pick HQP hq1 HGQ.out)
              have HO6 := Aside0.mk (remOrder (Kd.R_below HO.out HB3.out) q.toNat true)
              have hz6 := HS6.out.gone.lt
              clear HO
              obtain ⟨W6, hW6⟩ : ∃ W6, wr.setCell ⟨w.heap.size + 1, q.toNat, none⟩ (.bool true) = W6 := ⟨_, rfl⟩
              rw [hW6] at HS6 HO6 hz6
              clear HSr HS HG HB3
              go_wp2_with (at_builtin; refine Kd.R_append (Kd.int .i64) (w0 := w) w.heap.size rfl (.tmp 91) (.tmp 93) 37 3 (.int .i64 0) 8 rfl Try.underlying37 info3 rfl (by decide) (by decide) (.slice Av order.length cv) order q [.int .i64 q] (fun b => w.heap.size + 2 ≤ b) (fun _ => False) rfl rfl ?aP (fun _ hk => hk.elim) ?aF ?aO ?aB ?aS ?aL ?_; (case aP => exact rfl); (case aF => (intro b hb; omega)); (case aO => exact HO6.out); (case aB => exact HS6.out.below); (case aS => omega); (case aL => (have := HOL.out; omega)); intro v7 w7 hR7 hB7 hg7 hat7; have HO7 := Aside0.mk hR7; have HS7 := Aside0.mk (HS6.out.grown hg7 (fun b hb => HO6.out.1 b hb)); clear hR7 hB7 hg7 hat7; have HA7 := Aside0.mk (HA.out.below HS7.out.below); have y7 := HA7.out.cell (i := q.toNat) (by omega); obtain ⟨w8, hr8, hI8, hb8, hs8⟩ := mset_range (HA7.out.maps q.toNat (by omega)); have HS8 := Aside0.mk (HS7.out.step hb8); have HO8 := Aside0.mk (Kd.R_below (Kd.R_mono (ok' := fun b => w.heap.size + 2 ≤ b ∧ b < w7.heap.size) (Kd.R_bound HO7.out) (fun b hb => ⟨hb.1, hb.2.2.1⟩)) hb8); have HI8 := Aside0.mk hI8; have HKS := Aside0.mk (HA7.out.keys q.toNat (by omega)); have HNE := Aside0.mk (show w.heap.size + 2 ≤ w7.heap.size from (by have := HS7.out.gone.lt; omega)); clear hI8 hb8 hs8)
              go_loopg [] ((K q.toNat).filter fun x => !([] : List Int).contains x).length (fun m wx => ∃ done ds, m = ((K q.toNat).filter fun x => !done.contains x).length ∧ Aside0 (RemSt w wx n ds (bs.set q.toNat true)) ∧ Aside0 (MIter wx w7.heap.size (mb q.toNat) (K q.toNat) done) ∧ Aside0 (Kd.R (Kd.int .i64) 3 wx w.heap.size (fun b => w.heap.size + 2 ≤ b ∧ b < w7.heap.size) v7 (order ++ [q])))
              case atStart => exact ⟨[], _, rfl, HS8, HI8, HO8⟩
              case round =>
                clear HS6 HO6 HS7 HO7 HA7 HS8 HO8 HI8 hr8 y7 hz6 hW6 g0 f0
                obtain ⟨done, ds8, hm, HS9, HI9, HO9⟩ := hrel
                have HM := Aside0.mk hm; clear hm
                rcases miter_next HI9.out 0 with ⟨hall, hrn⟩ | ⟨x, vx, w10, hxk, hxd, hrn, hre, hI10, hg10, hs10⟩
                · clear hall
                  go_wp2
                  go_roundw
                  case rel => exact ⟨k + 1, rfl, by omega, by omega, ⟨ds8, _, _, HS9.out, HG6.out, by have := HOL.out; simp; omega, Kd.R_mono HO9.out (fun b hb => hb.1)⟩⟩
                  case measure => simp [intOf]; omega
                · have HS10 := Aside0.mk (HS9.out.grown hg10 (fun b e => by injection e with e; have := HNE.out; omega))
                  have HO10 := Aside0.mk (Kd.R_step HO9.out (w1 := w10) (fun b hb hlt => hg10.block b hlt (fun e => by injection e with e; omega)))
                  have hxr := HKS.out x hxk
                  have hx0 : 0 ≤ x := hxr.1
                  have hx1 : x < n := hxr.2.1
                  have HX := Aside0.mk (And.intro hxk hxd); have HI10 := Aside0.mk hI10
                  clear hxr hxk hxd hI10 hg10 hs10
                  have c0 := HS10.out.deg.cell x hx0 (by have := HS10.out.dlen; omega)
                  have f0 := HS10.out.deg.free x.toNat
                  go_wp2
                  go_roundg ((K q.toNat).filter fun y => !(x :: done).contains y).length
                  case rel =>
                    have hml := (HA.out.maps q.toNat (by omega)).lt
                    have hdl := HS10.out.deg.lt
                    exact ⟨x :: done, _, rfl, ⟨HS10.out.setDeg _ _⟩, ⟨HI10.out.kept (Below.heap_setCell _ _ _ _ (by simp; omega)) (Below.heap_setCell _ _ _ _ (by have := HNE.out; simp; omega))⟩, ⟨Kd.R_step HO10.out (fun b hb _ => Below.heap_setCell _ _ _ b (by simp; omega))⟩⟩
                  case measure =>
                    rw [HM.out]
                    exact filter_lt (fun y => !done.contains y) (fun y => !(x :: done).contains y) (fun y hy => by simp at hy ⊢; exact hy.2) x (by simp; exact HX.out.2) (by simp) _ HX.out.1
        · go_wp2
          go_ret
          exact ⟨_, order, rfl, Kd.R_mono HO.out (fun _ _ => trivial), HS.out.below, by have := HOL.out; omega, HG.out.range, HG.out.all (by have := HOL.out; omega)⟩
end Go.Proofs.Ytadaopfcgpfiiaa
namespace Go.Proofs.Ytadaopfcgpfiiaa
open Go.RowKit Go.Proofs.YtadaopfcgpfiiaaW.PrintWords Go.Proofs.YtadaopfcgpfiiaaW.PrintLast Go.Proofs.YtadaopfcgpfiiaaW.PrintMore PCg
set_option linter.unusedVariables false
set_option linter.unusedSimpArgs false
theorem php : ∀ (n m : Nat) (f : Nat → Nat), (∀ c, c < m → f c < n) → (∀ a b, a < m → b < m → f a = f b → a = b) → m ≤ n := by
  intro n
  induction n with
  | zero =>
    intro m f h _
    rcases Nat.eq_zero_or_pos m with h0 | h0
    · omega
    · exact absurd (h 0 h0) (by omega)
  | succ n ih =>
    intro m f h hi
    by_cases hc : ∃ c, c < m ∧ f c = n
    · obtain ⟨c0, hc0, hf⟩ := hc
      have := ih (m - 1) (fun c => if c < c0 then f c else f (c + 1)) (fun c hcm => by
        by_cases e : c < c0
        · simp only [if_pos e]
          have h1 := h c (by omega)
          have : f c ≠ n := fun e2 => by have := hi c c0 (by omega) hc0 (by rw [e2, hf]); omega
          omega
        · simp only [if_neg e]
          have h1 := h (c + 1) (by omega)
          have : f (c + 1) ≠ n := fun e2 => by have := hi (c + 1) c0 (by omega) hc0 (by rw [e2, hf]); omega
          omega) (fun a b ha hb he => by
        by_cases ea : a < c0 <;> by_cases eb : b < c0
        · simp only [if_pos ea, if_pos eb] at he; exact hi a b (by omega) (by omega) he
        · simp only [if_pos ea, if_neg eb] at he; have := hi a (b + 1) (by omega) (by omega) he; omega
        · simp only [if_neg ea, if_pos eb] at he; have := hi (a + 1) b (by omega) (by omega) he; omega
        · simp only [if_neg ea, if_neg eb] at he; have := hi (a + 1) (b + 1) (by omega) (by omega) he; omega)
      omega
    · have := ih m f (fun c hcm => by
        have h1 := h c hcm
        have : f c ≠ n := fun e => hc ⟨c, hcm, e⟩
        omega) hi
      omega
theorem php_but {n m i : Nat} (hin : i < n) (f : Nat → Nat) (h : ∀ c, c < m → f c < n ∧ f c ≠ i) (hi : ∀ a b, a < m → b < m → f a = f b → a = b) : m < n := by
  have := php (n - 1) m (fun c => if f c = n - 1 then i else f c) (fun c hc => by
    have := h c hc
    by_cases e : f c = n - 1
    · simp only [if_pos e]; omega
    · simp only [if_neg e]; omega) (fun a b ha hb he => by
    have h1 := h a ha
    have h2 := h b hb
    by_cases ea : f a = n - 1 <;> by_cases eb : f b = n - 1
    · exact hi a b ha hb (by rw [ea, eb])
    · simp only [if_pos ea, if_neg eb] at he; omega
    · simp only [if_neg ea, if_pos eb] at he; omega
    · simp only [if_neg ea, if_neg eb] at he; exact hi a b ha hb he)
  omega
/-- all colours are taken by neighbors: there are fewer colours than nodes -/
theorem taken_lt {n : Nat} {i colors : Int} {K out : List Int} (hi0 : 0 ≤ i) (hi1 : i < n) (hc0 : 0 ≤ colors) (hK : ∀ x ∈ K, 0 ≤ x ∧ x < n ∧ x ≠ i) (h : ∀ c, 0 ≤ c → c < colors → ∃ x ∈ K, rd out x = c) : colors < n := by
  have hf : ∀ c : Nat, ∃ x : Nat, c < colors.toNat → ((x : Int) ∈ K ∧ rd out x = c) := by
    intro c
    by_cases hc : c < colors.toNat
    · obtain ⟨x, hx, he⟩ := h c (by omega) (by omega)
      have := hK x hx
      exact ⟨x.toNat, fun _ => by rw [show ((x.toNat : Nat) : Int) = x from by omega]; exact ⟨hx, he⟩⟩
    · exact ⟨0, fun h => absurd h hc⟩
  have hf2 := fun c => Classical.choose_spec (hf c)
  have := php_but (n := n) (m := colors.toNat) (i := i.toNat) (by omega) (fun c => Classical.choose (hf c)) (fun c hc => by
    have := hK _ (hf2 c hc).1
    constructor
    · have := this.2.1; exact Int.ofNat_lt.1 this
    · have h3 := this.2.2
      intro e
      apply h3
      have : ((Classical.choose (hf c) : Nat) : Int) = ((i.toNat : Nat) : Int) := congrArg Nat.cast e
      rw [this]; omega) (fun a b ha hb he => by
    have h1 := (hf2 a ha).2
    have h2 := (hf2 b hb).2
    rw [he] at h1
    rw [h1] at h2
    exact Int.ofNat_inj.1 h2)
  omega
theorem swap_perm {xs : List Int} {i j : Nat} (hi : i < xs.length) (hj : j < xs.length) : ((xs.set i (rd xs j)).set j (rd xs i)).Perm xs := by
  have e1 : rd xs (j : Int) = xs[j] := by simp [rd, hj]
  have e2 : rd xs (i : Int) = xs[i] := by simp [rd, hi]
  rw [e1, e2]
  exact List.set_set_perm hi hj
theorem reverse_go : ∀ (d : Nat) (fuel : Nat) (xs : List Int) (i j : Int), 0 ≤ i → j < xs.length → xs.length ≤ 1000000 → -1 ≤ j → (j - i + 1).toNat ≤ d → d < fuel → ∃ r, slices_Reverse_int_int.l0 fuel xs i j = some r ∧ r.Perm xs := by
  intro d
  induction d with
  | zero =>
    intro fuel xs i j h0 h1 h2 h3 hd hf
    obtain ⟨f, rfl⟩ : ∃ f, fuel = f + 1 := ⟨fuel - 1, by omega⟩
    exact ⟨xs, by unfold slices_Reverse_int_int.l0; rw [if_neg (by omega)], List.Perm.refl _⟩
  | succ d ih =>
    intro fuel xs i j h0 h1 h2 h3 hd hf
    obtain ⟨f, rfl⟩ : ∃ f, fuel = f + 1 := ⟨fuel - 1, by omega⟩
    by_cases hlt : i < j
    · unfold slices_Reverse_int_int.l0
      rw [if_pos hlt, if_pos (by omega), if_pos (by omega), if_pos (by omega), if_pos (by omega), w64 (n := i + 1) (by omega), w64 (n := j - 1) (by omega)]
      obtain ⟨r, hr, hp⟩ := ih f ((xs.set i.toNat (rd xs j)).set j.toNat (rd xs i)) (i + 1) (j - 1) (by omega) (by simp; omega) (by simp; omega) (by omega) (by omega) (by omega)
      refine ⟨r, hr, hp.trans ?_⟩
      have := swap_perm (xs := xs) (i := i.toNat) (j := j.toNat) (by omega) (by omega)
      rwa [show ((i.toNat : Nat) : Int) = i from by omega, show ((j.toNat : Nat) : Int) = j from by omega] at this
    · exact ⟨xs, by unfold slices_Reverse_int_int.l0; rw [if_neg hlt], List.Perm.refl _⟩
theorem reverse_f (xs : List Int) (h : xs.length ≤ 1000000) : ∃ k r, slices_Reverse_int_int.f k xs = some r ∧ r.Perm xs := by
  obtain ⟨r, hr, hp⟩ := reverse_go xs.length (xs.length + 1) xs 0 ((xs.length : Int) - 1) (Int.le_refl _) (by omega) h (by omega) (by omega) (by omega)
  refine ⟨xs.length + 1, r, ?_, hp⟩
  unfold slices_Reverse_int_int.f
  rw [w64 (n := (xs.length : Int) - 1) (by omega)]
  exact hr
end Go.Proofs.Ytadaopfcgpfiiaa
namespace Go.Proofs.Ytadaopfcgpfiiaa
open Go.RowKit Go.Proofs.YtadaopfcgpfiiaaW.PrintWords Go.Proofs.YtadaopfcgpfiiaaW.PrintLast Go.Proofs.YtadaopfcgpfiiaaW.PrintMore PCg
set_option linter.unusedVariables false
set_option linter.unusedSimpArgs false
def ColorPost (n : Nat) (colors : Int) (w : World) (e : Ending) (w' : World) : Prop :=
  ∃ v out, e = .returned v ∧ Kd.R (Kd.int .i64) 3 w' w.heap.size (fun _ => True) v out ∧ Below w.heap.size w w' ∧ out.length = n ∧ (∀ x ∈ out, -1 ≤ x ∧ x < colors) ∧ (n ≤ colors → ∀ x ∈ out, 0 ≤ x)
structure ColSt (w wr : World) (g n go : Nat) (mb : Nat → Nat) (K : Nat → List Int) (out : List Int) : Prop where
  below : Below w.heap.size w wr
  adj : Adj wr w.heap.size g n n mb K
  blk : IntBlk wr go out
  olen : out.length = n
  hgo : w.heap.size ≤ go
  sep1 : g < go
  sep2 : ∀ i, i < n → mb i < go
section
variable {w wr w1 : World} {g n go : Nat} {mb : Nat → Nat} {K : Nat → List Int} {out : List Int}
theorem ColSt.step (h : ColSt w wr g n go mb K out) (hb : Below wr.heap.size wr w1) : ColSt w w1 g n go mb K out :=
  ⟨below_step h.below hb, h.adj.below hb, h.blk.below hb, h.olen, h.hgo, h.sep1, h.sep2⟩
theorem ColSt.setOut (h : ColSt w wr g n go mb K out) (i : Nat) (x : Int) : ColSt w (wr.setCell ⟨go, i, none⟩ (.int .i64 x)) g n go mb K (out.set i x) :=
  ⟨h.below.setCell (p := ⟨go, i, none⟩) h.hgo _,
   h.adj.step (Below.heap_setCell _ _ _ _ (by have := h.sep1; simp; omega)) (fun k hk => Below.heap_setCell _ _ _ _ (by have := h.sep2 k hk; simp; omega)),
   h.blk.set i x, by simp [h.olen], h.hgo, h.sep1, h.sep2⟩
theorem colSt_start {w1 : World} (hA : Adj w1 w.heap.size g n n mb K) (hb : Below w.heap.size w w1) : ColSt w (w1.alloc (.cells (madeCells #[.int .i64 0] n) 3)) g n w1.heap.size mb K (List.replicate n 0) :=
  ⟨below_alloc hb _, hA.below (below_alloc (Below.refl _ _) _), intBlk_made w1 n, by simp, hb.size, hA.lt, fun i hi => (hA.maps i hi).lt⟩
end
theorem intBlk_R {w : World} {g base : Nat} {ds : List Int} (h : IntBlk w g ds) (hb : base ≤ g) (hl : ds.length ≤ 1000000) : Kd.R (Kd.int .i64) 3 w base (fun _ => True) (.slice (some ⟨g, 0, none⟩) ds.length ds.length) ds := by
  refine Kd.R_of_own ⟨by simp [encs], .inr ⟨g, ds.length, (nums .i64 ds).toArray, rfl, hb, h, Nat.le_refl _, by unfold maxLen; omega, by simp [nums], ?_⟩⟩ (fun _ _ => trivial)
  simp [nums, encs, List.take_of_length_le]
theorem rd_T159 {xs : List Int} {i : Nat} {j v : Int} (hj0 : 0 ≤ j) (hj1 : j < xs.length) : rd (xs.set i v) j = if j = i then v else rd xs j := by
  unfold rd
  simp only [List.getD_eq_getElem?_getD, List.getElem?_set]
  by_cases e : i = j.toNat
  · subst e
    rw [if_pos rfl, if_pos (by omega), if_pos (by omega)]
    rfl
  · rw [if_neg e, if_neg (by omega)]
set_option maxRecDepth 100000 in
set_option maxHeartbeats 1000000 in
theorem color_any (A : Option Addr) (c : Nat) (edges : List (List Int)) (colors : Int) (w : World) (hr : Kd.C kRows w A edges.length edges) (hcp : edges.length ≤ c) (hm : edges.length ≤ 10000) (hc0 : 0 ≤ colors) (hc1 : colors ≤ 10000) :
    Calls Try.prog 47 #[.slice A edges.length c, .int .i64 colors] w (ColorPost edges.length colors w) := by
  have HR := Aside0.mk hr; clear hr
  have hmk := make_ints edges.length (by omega)
  go_enter Try.func47, Try.ntmps47
  go_wp2_with fail
  refine (neighbors_any A c edges w HR.out hcp hm).mono ?_
  rintro e w1 ⟨g, mb, K, rfl, hA1, hB1⟩
  have HS1 := Aside0.mk (colSt_start hA1 hB1)
  clear hA1 hB1
  go_wp2_with fail
  go_loopw [23] (fun i wr => ∃ k : Int, i = .int .i64 k ∧ 0 ≤ k ∧ k ≤ edges.length ∧ Aside0 (∃ out, ColSt w wr g edges.length w1.heap.size mb K out ∧ ∀ j : Nat, (j : Int) < k → rd out j = -1)) (fun i wr => edges.length - (intOf i).toNat)
  case atStart => exact ⟨0, rfl, Int.le_refl _, by omega, ⟨_, HS1.out, fun j hj => by omega⟩⟩
  case round =>
    clear HS1
    obtain ⟨k, rfl, hk0, hk, ⟨out, hS, hN⟩⟩ := hrel
    have HS := Aside0.mk hS; have HN := Aside0.mk hN; clear hS hN
    by_cases hlt : k < edges.length
    · have p1 := eq_true hk0
      have q1 := eq_true hlt
      have c0 := HS.out.blk.cell k hk0 (by have := HS.out.olen; omega)
      have f0 := HS.out.blk.free k.toNat
      go_wp2
      go_roundw
      case rel =>
        refine ⟨k + 1, rfl, by omega, by omega, ⟨_, HS.out.setOut _ _, fun j hj => ?_⟩⟩
        have hl := HS.out.olen
        by_cases e : (j : Int) < k
        · have := HN.out j e
          simp only [rd, List.getD_eq_getElem?_getD, List.getElem?_set] at this ⊢
          rw [if_neg (by omega)]
          exact this
        · simp only [rd, List.getD_eq_getElem?_getD, List.getElem?_set]
          rw [if_pos (by omega), if_pos (by omega)]
          rfl
      case measure => simp [intOf]; omega
    · have HM1 : Aside0 (∀ x ∈ out, x = -1) := ⟨fun x hx => by
        obtain ⟨j, hj, rfl⟩ := List.getElem_of_mem hx
        have := HN.out j (by have := HS.out.olen; omega)
        simpa [rd, hj] using this⟩
      clear HN
      go_wp2_with fail
      refine (remove_any w.heap.size g edges.length mb K colors wr HS.out.adj hm).mono ?_
      rintro e w3 ⟨v3, order, rfl, hR3, hB3, hol, hor, hoall⟩
      have HS3 := Aside0.mk (HS.out.step hB3)
      have HR3 := Aside0.mk hR3
      have HOR := Aside0.mk hor; have HOA := Aside0.mk hoall
      have HB3 := Aside0.mk hB3
      obtain ⟨kr, ro, hkr, hperm⟩ := reverse_f order (by omega)
      have HKR := Aside0.mk hkr; have HP := Aside0.mk hperm
      have HOL := Aside0.mk (hperm.length_eq.trans hol)
      have HOL1 := Aside0.mk hol
      have hrl : ro.length ≤ 10000 := by have := HOL.out; omega
      clear hor hoall hkr hperm hR3 hB3 hol
      go_wp2_with fail
      refine (slices_Reverse_int_int.calls kr (fun _ => True) v3 order ro wr w3 HB3.out HR3.out HKR.out).mono ?_
      rintro e w4 ⟨rfl, hR4, hB4, _⟩
      have HS4 := Aside0.mk (HS.out.step hB4)
      have HR4 := Aside0.mk (Kd.R_mono (ok' := fun k => wr.heap.size ≤ k) (Kd.R_bound hR4) (fun k hk => hk.2.1))
      obtain ⟨Ao, co, hv⟩ := Kd.R_slice hR4
      subst hv
      have HGO := Aside0.mk HS.out.blk.lt
      have HRO : Aside0 (∀ x ∈ ro, 0 ≤ x ∧ x < edges.length) := ⟨fun x hx => HOR.out x (HP.out.mem_iff.1 hx)⟩
      have HRA : Aside0 (∀ i, i < edges.length → (i : Int) ∈ ro) := ⟨fun i hi => HP.out.mem_iff.2 (HOA.out i hi)⟩
      clear hR4 hB4 HS HS3 HR3 HB3 HOR HOA HKR HP
      go_wp2_with fail
      obtain ⟨wB, rfl⟩ : ∃ wB : World, wB = wr := ⟨_, rfl⟩
      go_loopw [37] (fun i wr5 => ∃ k : Int, i = .int .i64 k ∧ 0 ≤ k ∧ k ≤ ro.length ∧ Aside0 (∃ out, ColSt w wr5 g edges.length w1.heap.size mb K out ∧ (∀ x ∈ out, -1 ≤ x ∧ x < colors) ∧ (edges.length ≤ colors → ∀ j : Int, 0 ≤ j → j < k → 0 ≤ rd out (rd ro j))) ∧
          Aside0 (Kd.R (Kd.int .i64) 3 wr5 wB.heap.size (fun k => wB.heap.size ≤ k) (.slice Ao ro.length co) ro)) (fun i wr => ro.length - (intOf i).toNat)
      case atStart => exact ⟨0, rfl, Int.le_refl _, by omega, ⟨out, HS4.out, fun x hx => by have := HM1.out x hx; omega, fun _ j h0 h1 => by omega⟩, HR4⟩
      case round =>
        clear HS4 HR4 HM1
        obtain ⟨k, rfl, hk0, hk, ⟨out, hS, hrg, hpos⟩, HR5⟩ := hrel
        have HS := Aside0.mk hS; have HRG := Aside0.mk hrg; have HPO := Aside0.mk hpos; clear hS hrg hpos
        by_cases hlt : k < ro.length
        · have p1 := eq_true hk0
          have q1 := eq_true hlt
          obtain ⟨_, _, hC⟩ := Kd.R_reads' HR5.out
          obtain ⟨ad, hA, h0⟩ := Kd.at_int hC k hk0 hlt
          cases hA
          have hmem := HRO.out (rd ro k) (mem_rd hk0 hlt)
          have hi0 : 0 ≤ rd ro k := hmem.1
          have hi1 : rd ro k < edges.length := hmem.2
          clear hmem hC
          obtain ⟨i, hi⟩ : ∃ i, rd ro k = i := ⟨_, rfl⟩
          rw [hi] at h0 hi0 hi1
          have HI := Aside0.mk hi; clear hi
          go_wp2_with fail
          obtain ⟨w5, rfl⟩ : ∃ w5 : World, w5 = wr := ⟨_, rfl⟩
          go_loopw [42] (fun s wr5 => ∃ c : Int, s = .int .i64 c ∧ 0 ≤ c ∧ c ≤ colors ∧ Aside0 (Below w5.heap.size w5 wr5) ∧ Aside0 (∀ c', 0 ≤ c' → c' < c → ∃ x ∈ K i.toNat, rd out x = c')) (fun i wr => (colors - intOf i).toNat)
          case atStart => exact ⟨0, rfl, Int.le_refl _, hc0, ⟨Below.refl _ _⟩, ⟨fun c' h0 h1 => by omega⟩⟩
          case round =>
            clear h0
            obtain ⟨cc, rfl, hcc0, hcc1, HB6, HT⟩ := hrel
            by_cases hlt2 : cc < colors
            · have p2 := eq_true hcc0
              have q2 := eq_true hlt2
              have HS6 := Aside0.mk (HS.out.step HB6.out)
              have y0 := HS6.out.adj.cell (i := i.toNat) (by omega)
              obtain ⟨w8, hr8, hI8, hb8, hs8⟩ := mset_range (HS6.out.adj.maps i.toNat (by omega))
              have HB8 := Aside0.mk (below_step HB6.out hb8)
              have HI8 := Aside0.mk hI8
              have HL6 := Aside0.mk HB6.out.size
              clear hI8 hb8 hs8
              go_wp2_with fail
              go_loopg [12] ((K i.toNat).filter fun x => !([] : List Int).contains x).length (fun m s wx => ∃ done tk, s = .bool tk ∧ m = ((K i.toNat).filter fun x => !done.contains x).length ∧ Aside0 (Below w5.heap.size w5 wx) ∧ Aside0 (MIter wx wr.heap.size (mb i.toNat) (K i.toNat) done) ∧ Aside0 (tk = true → ∃ x ∈ K i.toNat, rd out x = cc))
              case atStart => exact ⟨[], false, rfl, rfl, HB8, HI8, ⟨fun h => by cases h⟩⟩
              case round =>
                clear hr8 HB8 HI8 y0
                obtain ⟨done, tk, rfl, hm2, HB9, HI9, HTK⟩ := hrel
                have HM := Aside0.mk hm2; clear hm2
                rcases miter_next HI9.out 0 with ⟨hall, hrn⟩ | ⟨x, vx, w10, hxk, hxd, hrn, hre, hI10, hg10, hs10⟩
                · clear hall
                  have HS9 := Aside0.mk (HS.out.step HB9.out)
                  have c0 := HS9.out.blk.cell i hi0 (by have := HS9.out.olen; omega)
                  have f0 := HS9.out.blk.free i.toNat
                  cases tk with
                  | true =>
                    go_wp2
                    go_roundw
                    case rel =>
                      refine ⟨cc + 1, rfl, by omega, by omega, HB9, ⟨fun c' h0 h1 => ?_⟩⟩
                      by_cases e : c' < cc
                      · exact HT.out c' h0 e
                      · obtain rfl : c' = cc := by omega
                        exact HTK.out rfl
                    case measure => simp [intOf]; omega
                  | false =>
                    have HR9 := Aside0.mk (Kd.R_step (Kd.R_below HR5.out HB9.out) (w1 := wr.setCell ⟨w1.heap.size, i.toNat, none⟩ (.int .i64 cc)) (fun b hb _ => Below.heap_setCell _ _ _ b (by have := HGO.out; simp; omega)))
                    go_wp2
                    go_roundw
                    case rel =>
                      refine ⟨k + 1, rfl, by omega, by omega, ⟨_, HS9.out.setOut i.toNat cc, fun x hx => ?_, fun hle j hj0 hj1 => ?_⟩, HR9⟩
                      · rcases List.mem_or_eq_of_mem_set hx with hx | rfl
                        · exact HRG.out x hx
                        · omega
                      · have hm2 := HRO.out (rd ro j) (mem_rd hj0 (by omega))
                        rw [rd_T159 hm2.1 (by have := HS9.out.olen; omega)]
                        by_cases e : rd ro j = (i.toNat : Nat)
                        · rw [if_pos e]; exact hcc0
                        · rw [if_neg e]
                          by_cases e2 : j < k
                          · exact HPO.out hle j hj0 e2
                          · obtain rfl : j = k := by omega
                            exact absurd HI.out (by omega)
                    case measure => simp [intOf]; omega
                · have HB10 := Aside0.mk (HB9.out.grown hg10 HB9.out.size (fun b e => by injection e with e; have := HL6.out; omega))
                  have HS10 := Aside0.mk (HS.out.step HB10.out)
                  have hxr := HS.out.adj.keys i.toNat (by omega) x hxk
                  have hx0 : 0 ≤ x := hxr.1
                  have hx1 : x < edges.length := hxr.2.1
                  have HX := Aside0.mk (And.intro hxk hxd); have HI10 := Aside0.mk hI10
                  clear hxr hxk hxd hI10 hg10 hs10
                  have c0 := HS10.out.blk.cell x hx0 (by have := HS10.out.olen; omega)
                  have hmeas : Aside0 (((K i.toNat).filter fun y => !(x :: done).contains y).length < ((K i.toNat).filter fun x => !done.contains x).length) :=
                    ⟨filter_lt (fun y => !done.contains y) (fun y => !(x :: done).contains y) (fun y hy => by simp at hy ⊢; exact hy.2) x (by simp; exact HX.out.2) (by simp) _ HX.out.1⟩
                  cases tk with
                  | true =>
                    go_wp2
                    go_roundg ((K i.toNat).filter fun y => !(x :: done).contains y).length
                    case rel => exact ⟨x :: done, true, rfl, rfl, HB10, HI10, ⟨fun _ => HTK.out trivial⟩⟩
                    case measure => rw [HM.out]; exact hmeas.out
                  | false =>
                    obtain ⟨ox, hox⟩ : ∃ ox, rd out x = ox := ⟨_, rfl⟩
                    rw [hox] at c0
                    have HOX := Aside0.mk hox; clear hox
                    go_wp2
                    go_roundg ((K i.toNat).filter fun y => !(x :: done).contains y).length
                    case rel => exact ⟨x :: done, ox == cc, rfl, rfl, HB10, HI10, ⟨fun h => ⟨x, HX.out.1, by rw [HOX.out]; exact beq_iff_eq.1 h⟩⟩⟩
                    case measure => rw [HM.out]; exact hmeas.out
            · have HS9 := Aside0.mk (HS.out.step HB6.out)
              have HR9 := Aside0.mk (Kd.R_below HR5.out HB6.out)
              have HCE := Aside0.mk (show cc = colors by omega)
              go_wp2
              go_roundw
              case rel =>
                refine ⟨k + 1, rfl, by omega, by omega, ⟨_, HS9.out, HRG.out, fun hle j hj0 hj1 => ?_⟩, HR9⟩
                exact absurd (taken_lt hi0 hi1 hc0 (fun x hx => by have := HS9.out.adj.keys i.toNat (by omega) x hx; omega) (fun c' h0 h1 => HT.out c' h0 (by have := HCE.out; omega))) (by omega)
              case measure => simp [intOf]; omega
        · have HKE := Aside0.mk (show k = ro.length by omega)
          go_wp2
          go_ret
          have hol := HS.out.olen
          refine ⟨_, out, rfl, ?_, HS.out.below, hol, HRG.out, fun hle x hx => ?_⟩
          · have := intBlk_R HS.out.blk HS.out.hgo (by omega)
            rwa [hol] at this
          · obtain ⟨j, hj, rfl⟩ := List.getElem_of_mem hx
            have hmj := HRA.out j (by omega)
            obtain ⟨a, ha, hae⟩ := List.getElem_of_mem hmj
            have := HPO.out hle (a : Int) (by omega) (by have := HKE.out; omega)
            have e1 : rd ro (a : Int) = j := by simp [rd, ha, hae]
            rw [e1] at this
            simpa [rd, hj] using this
end Go.Proofs.Ytadaopfcgpfiiaa
namespace Go.Proofs.Ytadaopfcgpfiiaa
open Go.RowKit Go.Proofs.YtadaopfcgpfiiaaW.PrintWords Go.Proofs.YtadaopfcgpfiiaaW.PrintLast Go.Proofs.YtadaopfcgpfiiaaW.PrintMore PCg
set_option linter.unusedVariables false
set_option linter.unusedSimpArgs false
theorem index_goI (l : List Int) (a : Int) (hl : l.length ≤ 9223372036854775807) : ∀ (d fuel : Nat) (i : Int), 0 ≤ i → i ≤ l.length → (l.length - i).toNat = d → d < fuel → ∃ r, slices_Index_int_int.l0 fuel l a (l.length : Int) i = some r := by
  intro d
  induction d with
  | zero =>
    intro fuel i h0 h1 hd hf
    obtain ⟨f, rfl⟩ : ∃ f, fuel = f + 1 := ⟨fuel - 1, by omega⟩
    exact ⟨-1, by unfold slices_Index_int_int.l0; rw [if_neg (by omega)]⟩
  | succ d ih =>
    intro fuel i h0 h1 hd hf
    obtain ⟨f, rfl⟩ : ∃ f, fuel = f + 1 := ⟨fuel - 1, by omega⟩
    unfold slices_Index_int_int.l0
    rw [if_pos (by omega), if_pos h0, if_pos (by omega)]
    split
    · exact ⟨_, rfl⟩
    · rw [w64 (n := i + 1) (by omega)]
      exact ih f (i + 1) (by omega) (by omega) (by omega) (by omega)
theorem contains_fI (l : List Int) (a : Int) (hl : l.length ≤ 9223372036854775807) : ∃ k r, slices_Contains_int_int.f k l a = some r := by
  obtain ⟨r, hr⟩ := index_goI l a hl l.length (l.length + 1) 0 (by omega) (by omega) (by omega) (by omega)
  exact ⟨l.length + 1, decide (r ≥ 0), by unfold slices_Contains_int_int.f slices_Index_int_int.f; rw [hr]; rfl⟩
def ContPost (w : World) (e : Ending) (w' : World) : Prop := ∃ b, e = .returned (.bool b) ∧ Below w.heap.size w w'
theorem containsInt_post (A : Option Addr) (c : Nat) (l : List Int) (a : Int) (w : World) (hr : Kd.C (Kd.int .i64) w A l.length l) (hcp : l.length ≤ c) :
    Calls Try.prog 48 #[.slice A l.length c, .int .i64 a] w (ContPost w) := by
  obtain ⟨k, r, h⟩ := contains_fI l a hr.2.1
  exact (slices_Contains_int_int.calls k A c l a r w hr hcp h).mono (fun e w' ⟨he, hd⟩ => ⟨r, he, hd.below⟩)
/-- a place in a register, or in a slot below s -/
def goodPl (s : Int) (p : Int × Int) : Prop := (p.2 = -1 ∧ 2 ≤ p.1 ∧ p.1 ≤ 9) ∨ (p.1 = 0 ∧ 0 ≤ p.2 ∧ p.2 < s)
theorem goodPl.mono {s s' : Int} {p : Int × Int} (h : goodPl s p) (hs : s ≤ s') : goodPl s' p := by
  unfold goodPl at *; omega
/-- the first loop at colour k: what is spilled, and the places -/
def Sp1 (k : Int) (sp : List Int) (ps : List (Int × Int)) : Prop :=
  (ps.length : Int) = k ∧ (sp.length : Int) ≤ k ∧ (∀ x ∈ sp, 0 ≤ x ∧ x < k) ∧ ∀ j : Nat, (j : Int) < k → goodPl 0 (ps.getD j (0, 0)) ∨ (j : Int) ∈ sp
theorem getD_snoc {ps : List (Int × Int)} {p : Int × Int} {j : Nat} (h : j < ps.length) : (ps ++ [p]).getD j (0, 0) = ps.getD j (0, 0) := by
  simp only [List.getD_eq_getElem?_getD, List.getElem?_append_left h]
theorem Sp1.spill {k : Int} {sp : List Int} {ps : List (Int × Int)} (h : Sp1 k sp ps) (hk : 0 ≤ k) (p : Int × Int) : Sp1 (k + 1) (sp ++ [k]) (ps ++ [p]) := by
  obtain ⟨h1, h2, h3, h4⟩ := h
  refine ⟨by simp; omega, by simp; omega, fun x hx => ?_, fun j hj => ?_⟩
  · rcases List.mem_append.1 hx with hx | hx
    · have := h3 x hx; omega
    · simp at hx; omega
  · by_cases e : (j : Int) < k
    · rw [getD_snoc (by omega)]
      rcases h4 j e with h | h
      · exact .inl h
      · exact .inr (List.mem_append_left _ h)
    · refine .inr (List.mem_append_right _ ?_)
      simp; omega
theorem Sp1.reg {k : Int} {sp : List Int} {ps : List (Int × Int)} (h : Sp1 k sp ps) (hk : 0 ≤ k) {p : Int × Int} (hp : goodPl 0 p) : Sp1 (k + 1) sp (ps ++ [p]) := by
  obtain ⟨h1, h2, h3, h4⟩ := h
  refine ⟨by simp; omega, by omega, fun x hx => by have := h3 x hx; omega, fun j hj => ?_⟩
  by_cases e : (j : Int) < k
  · rw [getD_snoc (by omega)]
    exact h4 j e
  · left
    have : j = ps.length := by omega
    subst this
    simpa using hp
/-- the last loop at spilled node k: what is left is good -/
def Sp4 (n : Int) (sp : List Int) (k : Int) (ps : List (Int × Int)) (slots : Int) : Prop :=
  (ps.length : Int) = n ∧ 0 ≤ slots ∧ slots ≤ sp.length ∧ (∀ x ∈ sp, 0 ≤ x ∧ x < n) ∧ ∀ j : Nat, (j : Int) < n → goodPl slots (ps.getD j (0, 0)) ∨ ∃ q : Nat, k ≤ q ∧ q < sp.length ∧ rd sp q = j
theorem Sp4.start {n : Int} {sp : List Int} {ps : List (Int × Int)} (h : Sp1 n sp ps) : Sp4 n sp 0 ps 0 := by
  obtain ⟨h1, h2, h3, h4⟩ := h
  refine ⟨h1, by omega, by omega, h3, fun j hj => ?_⟩
  rcases h4 j hj with h | h
  · exact .inl h
  · right
    obtain ⟨q, hq, he⟩ := List.getElem_of_mem h
    exact ⟨q, by omega, hq, by simp [rd, hq, he]⟩
theorem Sp4.next {n k slots c : Int} {sp : List Int} {ps : List (Int × Int)} (h : Sp4 n sp k ps slots) (hk0 : 0 ≤ k) (hk1 : k < sp.length) (hc0 : 0 ≤ c) (hc1 : c < sp.length) :
    Sp4 n sp (k + 1) (ps.set (rd sp k).toNat (0, c)) (mx slots (c + 1)) := by
  obtain ⟨h1, h2, h3, h4, h5⟩ := h
  have hm : slots ≤ mx slots (c + 1) ∧ c + 1 ≤ mx slots (c + 1) ∧ mx slots (c + 1) ≤ sp.length := by unfold mx; split <;> omega
  refine ⟨by rw [List.length_set]; exact h1, by omega, hm.2.2, h4, fun j hj => ?_⟩
  have hr := h4 (rd sp k) (mem_rd hk0 hk1)
  simp only [List.getD_eq_getElem?_getD, List.getElem?_set]
  by_cases e : (rd sp k).toNat = j
  · rw [if_pos e, if_pos (by omega)]
    left
    exact .inr ⟨rfl, hc0, by simp; omega⟩
  · rw [if_neg e]
    have h6 := h5 j hj
    rw [List.getD_eq_getElem?_getD] at h6
    rcases h6 with h | ⟨q, hq, hq2, he⟩
    · exact .inl (h.mono hm.1)
    · right
      refine ⟨q, ?_, hq2, he⟩
      rcases Int.lt_or_le (q : Int) (k + 1) with h | h
      · exfalso
        have : (q : Int) = k := by omega
        rw [this] at he
        omega
      · exact h
theorem Sp4.done {n k slots : Int} {sp : List Int} {ps : List (Int × Int)} (h : Sp4 n sp k ps slots) (hk : (sp.length : Int) ≤ k) : ∀ p ∈ ps, goodPl slots p := by
  intro p hp
  obtain ⟨j, hj, rfl⟩ := List.getElem_of_mem hp
  rcases h.2.2.2.2 j (by have := h.1; omega) with h | ⟨q, hq, hq2, _⟩
  · simpa [hj] using h
  · omega
/-- cells of a place are written -/
theorem two_stored {W : World} {base e g n cap : Nat} {ok : Nat → Prop} {ps : List (Int × Int)} (h : Kd.R kTwo e W base ok (.slice (some ⟨g, 0, none⟩) n cap) ps) (i : Nat) (a b : Int) (hi : i < ps.length) :
    Kd.R kTwo e ((W.setCell ⟨g, i * 2, none⟩ (.int .i64 a)).setCell ⟨g, i * 2 + 1, none⟩ (.int .i64 b)) base ok (.slice (some ⟨g, 0, none⟩) n cap) (ps.set i (a, b)) := by
  obtain rfl : n = ps.length := (Kd.R_reads' h).1
  obtain ⟨h0, inner, ho, hl, hr⟩ := h
  have h1 := (ho.stored (i * 2) (.int .i64 a)).1
  have h2 := (h1.stored (i * 2 + 1) (.int .i64 b)).1
  refine ⟨h0, _, by rw [List.length_set]; exact h2, ?_, fun j p hj => ?_⟩
  · simp only [List.length_set]; exact hl
  · have hl' : inner.length = ps.length * 2 := hl
    rw [List.getElem?_set] at hj
    by_cases e1 : i = j
    · subst e1
      rw [if_pos rfl, if_pos hi] at hj
      injection hj with hj
      subst hj
      have e2 : ((((inner.set (i * 2) (.int .i64 a)).set (i * 2 + 1) (.int .i64 b)).drop (i * kTwo.sz)).take kTwo.sz) = [.int .i64 a, .int .i64 b] := by
        show ((((inner.set (i * 2) (.int .i64 a)).set (i * 2 + 1) (.int .i64 b)).drop (i * 2)).take 2) = _
        apply List.ext_getElem?
        intro q
        rw [List.getElem?_take, List.getElem?_drop]
        rcases q with _ | _ | q
        · simp only [List.getElem?_set]
          rw [if_pos (by omega), if_neg (by omega), if_pos (by omega), if_pos (by omega)]
          rfl
        · rw [if_pos (by omega), show i * 2 + (0 + 1) = i * 2 + 1 from rfl, List.getElem?_set, if_pos rfl, if_pos (by rw [List.length_set]; omega)]
          rfl
        · rw [if_neg (by omega)]
          rfl
      rw [e2]
      exact kTwo_mkM _ _ _ (a, b)
    · rw [if_neg e1] at hj
      have h3 := hr j p hj
      have e2 : ((((inner.set (i * 2) (.int .i64 a)).set (i * 2 + 1) (.int .i64 b)).drop (j * kTwo.sz)).take kTwo.sz) = ((inner.drop (j * kTwo.sz)).take kTwo.sz) := by
        show ((((inner.set (i * 2) (.int .i64 a)).set (i * 2 + 1) (.int .i64 b)).drop (j * 2)).take 2) = ((inner.drop (j * 2)).take 2)
        apply List.ext_getElem?
        intro q
        rw [List.getElem?_take, List.getElem?_drop, List.getElem?_take, List.getElem?_drop]
        by_cases hq : q < 2
        · rw [if_pos hq, if_pos hq]
          simp only [List.getElem?_set]
          rw [if_neg (by omega), if_neg (by omega)]
        · rw [if_neg hq, if_neg hq]
      rw [e2]
      exact h3
end Go.Proofs.Ytadaopfcgpfiiaa
