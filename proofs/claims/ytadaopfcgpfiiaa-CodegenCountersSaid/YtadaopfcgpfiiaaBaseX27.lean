/- Lemmas: what the theorem of the claim's last text needs, joined by a program out of the seat's texts H2, H3, F0, F1, F2, F3. -/
import Derived.Test.YtadaopfcgpfiiaaBaseX26
import Derived.Test.YtadaopfcgpfiiaaBaseX20
import Derived.RangeFuncNested
import Derived.RangeFuncLeaves
import Derived.WalkKit
import Derived.OwnWalkIn
import Derived.TacticsInMore
import Derived.LoopNIn
import Derived.LoopIn
import Derived.Test.YtadaopfcgpfiiaaBaseX17
import Derived.MapKept
import Derived.Laws.IdiomRangeMap
import Derived.StillTailTactics
import Derived.Test.YtadaopfcgpfiiaaBaseX24
namespace Go.Proofs.Ytadaopfcgpfiiaa
open Go.RowKit Go.Proofs.YtadaopfcgpfiiaaW.PrintWords Go.Proofs.YtadaopfcgpfiiaaW.PrintLast Go.Proofs.YtadaopfcgpfiiaaW.PrintMore PCg
set_option linter.unusedVariables false
set_option linter.unusedSimpArgs false
attribute [local go_sem] Oper.semAt_some
def insV (i : S51) : Value := .agg #[.int .u8 i.f0, .int .i64 i.f1, .int .i64 i.f2, .int .i64 i.f3, .int .i64 i.f4, .string i.f5]
def encB (x : Int × S51) : Array Value := #[.int .i64 x.1, insV x.2]
/-- what has come when k rounds are over -/
def seqB (code : List S51) (k : Nat) : List (Int × S51) := (List.range k).map fun j : Nat => ((code.length : Int) - 1 - j, rd_T51 code ((code.length : Int) - 1 - j))
theorem seqB_succ (code : List S51) (k : Nat) : seqB code (k + 1) = seqB code k ++ [((code.length : Int) - 1 - k, rd_T51 code ((code.length : Int) - 1 - k))] := by simp [seqB, List.range_succ]
theorem seqB_length (code : List S51) (k : Nat) : (seqB code k).length = k := by simp [seqB]
theorem seqB_all (code : List S51) : (seqB code code.length).map (·.2) = code.reverse := by
  apply List.ext_getElem
  · simp [seqB]
  · intro i h1 h2
    have hi : i < code.length := by simpa [seqB] using h1
    simp only [seqB, List.getElem_map, List.getElem_range, List.getElem_reverse, rd_T51]
    rw [show ((code.length : Int) - 1 - (i : Int)).toNat = code.length - 1 - i by omega, List.getD_eq_getElem?_getD, List.getElem?_eq_getElem (by omega)]
    rfl
/-- what each round keeps: what came in, and the slice's box -/
def KB (B bx : Nat) (W W' : World) : Prop := Below B W W' ∧ W'.heap[bx]? = W.heap[bx]?
theorem KB.refl (B bx : Nat) (W : World) : KB B bx W W := ⟨Below.refl _ _, rfl⟩
theorem KB.trans {B bx : Nat} {W W1 W2 : World} (h : KB B bx W W1) (k : KB B bx W1 W2) : KB B bx W W2 := ⟨h.1.trans k.1, k.2.trans h.2⟩
theorem KB.putObj {B bx : Nat} {w : World} (hB : B ≤ w.heap.size) (hb : bx < w.heap.size) (W : World) (l : Nat) (o o' : Obj) (hl : w.heap.size ≤ l) (h : W.heap[l]? = some o) (_ : o.isCells = false) (_ : o.isWalk = false) : KB B bx W (W.putObj l o') :=
  ⟨belowK_b hB W l o o' hl h ‹_› ‹_›, World.putObj_heap_other (by omega)⟩
set_option maxRecDepth 100000 in
set_option maxHeartbeats 2000000 in
theorem back1_in (n l bx : Nat) (A : Option Addr) (c : Nat) (code : List S51) (w0 : World) (hn : 1 ≤ n) (hr : Kd.C k51 w0 A code.length code) (hcp : code.length ≤ c) (hm : code.length ≤ 1000000) (p : S51 → Prop) (hp : ∀ i ∈ code, p i) (J Jx : List (Int × S51) → World → Prop)
    (hY : ∀ pre x W, p x.2 → J pre W → pre.length < code.length → YieldAt Fence.wide (n - 1) Try.prog l (encB x) W fun e W' =>
      (e = .returned (.bool true) ∧ J (pre ++ [x]) W' ∧ KB w0.heap.size bx W W') ∨ (e = .returned (.bool false) ∧ Jx (pre ++ [x]) W'))
    (W : World) (hB : Below w0.heap.size w0 W) (hBs : W.heap[bx]? = some (.cells #[.slice A code.length c] 47 (0, 0))) (h0 : J [] W) :
    CallsIn Fence.wide n Try.prog 110 #[.func (.yield l) #[] #[], .pointer (some ⟨bx, 0, none⟩)] W fun e W' => (∃ v, e = .returned v) ∧
      ((∃ ys, ys = seqB code code.length ∧ J ys W') ∨ (∃ pre, (∃ k, k ≤ code.length ∧ pre = seqB code k) ∧ Jx pre W')) := by
  have HR := Aside0.mk hr; have HP := Aside0.mk hp; clear hr hp
  have HBS := Aside0.mk hBs
  have b0 := blk1 hBs
  clear hBs
  have hu := Try.underlying51
  refine callsIn_of_wp Try.func110 rfl trivial ?_ rfl
  simp only [Try.ntmps110, List.size_toArray, List.length_cons, List.length_nil, Nat.reduceAdd, Nat.reduceSub, Array.replicate_succ, Array.replicate_zero, List.push_toArray, List.append_toArray, List.nil_append, List.cons_append]
  gi_wp2
  gi_loopw [3] (fun i wr => ∃ k : Nat, k ≤ code.length ∧ i = .int .i64 ((code.length : Int) - 1 - k) ∧ Aside0 (J (seqB code k) wr) ∧ Aside0 (KB w0.heap.size bx W wr))
    (fun i _ => (intOf i + 1).toNat)
  case atStart => exact ⟨0, Nat.zero_le _, by simp, ⟨h0⟩, ⟨KB.refl _ _ _⟩⟩
  case round =>
    obtain ⟨k, hk, rfl, HJ, HK⟩ := hrel
    have hbs := HK.out.2.trans HBS.out
    have b1 := blk1 hbs
    clear hbs b0
    obtain ⟨x, hx⟩ : ∃ x : Int, (code.length : Int) - 1 - k = x := ⟨_, rfl⟩
    have HX := Aside0.mk hx
    have hx1 : x < code.length := by omega
    by_cases hlt : 0 ≤ x
    · obtain ⟨ad, hA, i0, i1, i2, i3, i4, i5⟩ := at_T51 HR.out x hlt hx1
      cases hA
      have hBx := (hB.trans HK.out.1)
      replace i0 := (hBx.cell (World.block_lt_of_cell? w0 _ i0)).trans i0
      replace i1 := (hBx.cell (World.block_lt_of_cell? w0 _ i1)).trans i1
      replace i2 := (hBx.cell (World.block_lt_of_cell? w0 _ i2)).trans i2
      replace i3 := (hBx.cell (World.block_lt_of_cell? w0 _ i3)).trans i3
      replace i4 := (hBx.cell (World.block_lt_of_cell? w0 _ i4)).trans i4
      replace i5 := (hBx.cell (World.block_lt_of_cell? w0 _ i5)).trans i5
      have p1 := eq_true hlt
      have q1 := eq_true hx1
      obtain ⟨fn, tmps, assign, body, hy, hR⟩ := hY _ (x, rd_T51 code x) wr (HP.out _ (mem_rd (z := z51) hlt hx1)) HJ.out (by rw [seqB_length]; omega)
      have HS := Aside0.mk (seqB_succ code k)
      rw [hx] at HS ⊢
      simp only [encB, insV] at hy hR
      have HR2 := Aside0.mk hR; clear hR hBx hx
      gi_wp2
      refine HR2.out.mono ?_
      rintro e W3 (⟨rfl, hJ3, hk3⟩ | ⟨rfl, hJx3⟩)
      · have HJ3 := Aside0.mk hJ3; have HK3 := Aside0.mk (HK.out.trans hk3)
        clear hJ3 hk3 HJ HK i0 i1 i2 i3 i4 i5 b1
        gi_wp2
        go_roundw
        case rel => exact ⟨k + 1, by have := HX.out; omega, by have := HX.out; rw [← HX.out]; congr 1; omega, ⟨by rw [HS.out]; exact HJ3.out⟩, HK3⟩
        case measure => simp [intOf]; omega
      · have HJ3 := Aside0.mk hJx3
        clear hJx3 HJ HK i0 i1 i2 i3 i4 i5 b1
        gi_wp2
        refine bodyPost_ret (results_none rfl _ _ _) rfl ?_
        exact ⟨⟨_, rfl⟩, .inr ⟨_, ⟨k + 1, by have := HX.out; omega, HS.out.symm⟩, HJ3.out⟩⟩
    · have hkl : k = code.length := by omega
      have HKL := Aside0.mk hkl
      clear hkl
      rw [hx]
      clear hx
      gi_wp2
      go_end0
      exact ⟨⟨_, rfl⟩, .inl (by have := HJ.out; rw [HKL.out] at this; exact this)⟩
theorem backward_in (n : Nat) (A : Option Addr) (len c : Nat) (w : World) :
    CallsIn Fence.wide n Try.prog 94 #[.slice A len c] w fun e w' => e = .returned (.func (.func 110) #[] #[.pointer (some ⟨w.heap.size, 0, none⟩)]) ∧ w.alloc (.cells #[.slice A len c] 47) = w' := by
  refine callsIn_of_wp Try.func94 rfl trivial ?_ rfl
  simp only [Try.ntmps94, List.size_toArray, List.length_cons, List.length_nil, Nat.reduceAdd, Nat.reduceSub, Array.replicate_succ, Array.replicate_zero, List.push_toArray, List.append_toArray, List.nil_append, List.cons_append]
  gi_wp2
  go_ret
  exact ⟨rfl, rfl⟩
theorem back_stops (n bx : Nat) (A : Option Addr) (c : Nat) (code : List S51) (p : S51 → Prop) (w0 w : World) (hn : 1 ≤ n) (hr : Kd.C k51 w0 A code.length code) (hcp : code.length ≤ c) (hm : code.length ≤ 1000000) (hp : ∀ i ∈ code, p i) (hB : Below w0.heap.size w0 w)
    (hBs : w.heap[bx]? = some (.cells #[.slice A code.length c] 47 (0, 0))) :
    SeqStopsK Fence.wide n Try.prog 110 #[.pointer (some ⟨bx, 0, none⟩)] (fun x : { x : Int × S51 // p x.2 } => encB x.1) (KB w0.heap.size bx) (fun ys => ys.map (·.1) = seqB code code.length) (fun _ => True) code.length w := fun l J Jx W hW _ _ hY h0 => by
  refine (back1_in n l bx A c code w0 hn hr hcp hm p hp (fun ys W => ∃ xs : List { x : Int × S51 // p x.2 }, xs.map (·.1) = ys ∧ J xs W) (fun ys W => ∃ xs : List { x : Int × S51 // p x.2 }, xs.map (·.1) = ys ∧ Jx xs W) ?_ W (hB.trans (hW.mono hB.size)) (blk_below hBs hW) ⟨[], rfl, h0⟩).mono ?_
  · rintro pre x W1 hx ⟨xs, rfl, hJ⟩ hl
    obtain ⟨fn, tmps, assign, body, hy, hR⟩ := hY xs ⟨x, hx⟩ W1 hJ (by simpa using hl)
    refine ⟨fn, tmps, assign, body, hy, hR.mono ?_⟩
    rintro e W' (⟨he, hj, hk⟩ | ⟨he, hj⟩)
    · exact .inl ⟨he, ⟨_, by simp, hj⟩, hk⟩
    · exact .inr ⟨he, ⟨_, by simp, hj⟩⟩
  · rintro e W' ⟨he, ⟨ys, rfl, xs, hxs, hj⟩ | ⟨pre, _, xs, _, hj⟩⟩
    · exact ⟨he, .inl ⟨xs, hxs, hj⟩⟩
    · exact ⟨he, .inr ⟨xs, trivial, hj⟩⟩
end Go.Proofs.Ytadaopfcgpfiiaa
namespace Go.Proofs.Ytadaopfcgpfiiaa
open Go.RowKit Go.Proofs.YtadaopfcgpfiiaaW.PrintWords Go.Proofs.YtadaopfcgpfiiaaW.PrintLast Go.Proofs.YtadaopfcgpfiiaaW.PrintMore PCg
set_option linter.unusedVariables false
set_option linter.unusedSimpArgs false
def zc (x : Int) : Nat := ((List.range 64).filter fun i => !(bw x).getLsbD i).length
theorem zc_le (x : Int) : zc x ≤ 64 := by
  unfold zc
  refine Nat.le_trans (List.length_filter_le _ _) ?_
  simp
theorem bwLe_bit {x y : Int} (h : bwLe x y) {i : Nat} (hb : (bw x).getLsbD i = true) : (bw y).getLsbD i = true := by
  unfold bwLe at h
  rw [← h, BitVec.getLsbD_or, hb]
  rfl
theorem zc_mono {x y : Int} (h : bwLe x y) : zc y ≤ zc x := by
  unfold zc
  have key : ∀ l : List Nat, (l.filter fun i => !(bw y).getLsbD i).length ≤ (l.filter fun i => !(bw x).getLsbD i).length := by
    intro l
    induction l with
    | nil => simp
    | cons a l ih =>
      simp only [List.filter_cons]
      have hm := bwLe_bit h (i := a)
      cases hx : (bw x).getLsbD a <;> cases hy : (bw y).getLsbD a
      · simp; exact ih
      · simp; omega
      · rw [hm hx] at hy; cases hy
      · simp; exact ih
  exact key _
theorem zc_lt {x y : Int} (h : bwLe x y) (hx : CanW x) (hy : CanW y) (hne : x ≠ y) : zc y < zc x := by
  have hb : ∃ i, i < 64 ∧ (bw y).getLsbD i = true ∧ (bw x).getLsbD i = false := by
    by_cases hex : ∃ i, i < 64 ∧ (bw y).getLsbD i = true ∧ (bw x).getLsbD i = false
    · exact hex
    · exfalso
      apply hne
      have : bw x = bw y := by
        apply BitVec.eq_of_getLsbD_eq
        intro i hi
        cases e1 : (bw x).getLsbD i <;> cases e2 : (bw y).getLsbD i
        · rfl
        · exact absurd ⟨i, hi, e2, e1⟩ hex
        · rw [bwLe_bit h e1] at e2; cases e2
        · rfl
      rw [← canW_bw hx, ← canW_bw hy, this]
  obtain ⟨i, hi, e1, e2⟩ := hb
  unfold zc
  exact filter_lt (fun i => !(bw x).getLsbD i) (fun i => !(bw y).getLsbD i) (fun j hj => by
    cases e : (bw x).getLsbD j with
    | false => rfl
    | true => rw [bwLe_bit h e] at hj; cases hj) i (by simp [e2]) (by simp [e1]) _ (List.mem_range.2 hi)
def zsum (s : List Int) : Nat := (s.map zc).sum
theorem zsum_le64 (s : List Int) : zsum s ≤ 64 * s.length := by
  induction s with
  | nil => simp [zsum]
  | cons x s ih => have := zc_le x; simp only [zsum, List.map_cons, List.sum_cons, List.length_cons] at *; omega
theorem zsum_le : ∀ s t : List Int, sLe s t → zsum t ≤ zsum s := by
  intro s
  induction s with
  | nil => intro t h; have : t = [] := List.eq_nil_of_length_eq_zero h.1.symm; subst this; exact Nat.le_refl _
  | cons x s ih =>
    intro t h
    cases t with
    | nil => have := h.1; simp at this
    | cons y t =>
      obtain ⟨h1, h2⟩ := sLe_cons h
      have h3 := ih t h2
      have h4 := zc_mono h1
      simp only [zsum, List.map_cons, List.sum_cons] at *
      omega
theorem zsum_lt : ∀ s t : List Int, sLe s t → Canon s → Canon t → s ≠ t → zsum t < zsum s := by
  intro s
  induction s with
  | nil => intro t h _ _ hne; have : t = [] := List.eq_nil_of_length_eq_zero h.1.symm; exact absurd this.symm hne
  | cons x s ih =>
    intro t h hs ht hne
    cases t with
    | nil => have := h.1; simp at this
    | cons y t =>
      obtain ⟨h1, h2⟩ := sLe_cons h
      by_cases e : x = y
      · subst e
        have h3 := ih t h2 (fun q hq => hs q (List.mem_cons_of_mem _ hq)) (fun q hq => ht q (List.mem_cons_of_mem _ hq)) (fun e => hne (by rw [e]))
        simp only [zsum, List.map_cons, List.sum_cons] at *
        omega
      · have h3 := zsum_le s t h2
        have h4 := zc_lt h1 (hs x (List.mem_cons_self ..)) (ht y (List.mem_cons_self ..)) e
        simp only [zsum, List.map_cons, List.sum_cons] at *
        omega
def upd {α : Type} (f : Nat → α) (b : Nat) (x : α) : Nat → α := fun i => if i = b then x else f i
theorem upd_same {α : Type} (f : Nat → α) (b : Nat) (x : α) : upd f b x b = x := if_pos rfl
theorem upd_ne {α : Type} (f : Nat → α) {b i : Nat} (x : α) (h : i ≠ b) : upd f b x i = f i := if_neg h
def sumZ (ins : Nat → List Int) : Nat → Nat
  | 0 => 0
  | n + 1 => sumZ ins n + zsum (ins n)
theorem sumZ_le {ins : Nat → List Int} {L : Nat} : ∀ n, (∀ i, i < n → (ins i).length = L) → sumZ ins n ≤ n * (64 * L) := by
  intro n
  induction n with
  | zero => intro _; simp [sumZ]
  | succ n ih =>
    intro h
    have h1 := ih (fun i hi => h i (by omega))
    have h2 := zsum_le64 (ins n)
    rw [h n (by omega)] at h2
    rw [sumZ, Nat.succ_mul]
    omega
theorem sumZ_ext {ins ins' : Nat → List Int} : ∀ n, (∀ i, i < n → ins' i = ins i) → sumZ ins' n = sumZ ins n := by
  intro n
  induction n with
  | zero => intro _; rfl
  | succ n ih => intro h; rw [sumZ, sumZ, ih (fun i hi => h i (by omega)), h n (by omega)]
theorem sumZ_upd {ins : Nat → List Int} {s : List Int} {b : Nat} : ∀ n, b < n → sumZ (upd ins b s) n + zsum (ins b) = sumZ ins n + zsum s := by
  intro n
  induction n with
  | zero => intro h; omega
  | succ n ih =>
    intro h
    rw [sumZ, sumZ]
    by_cases e : b = n
    · subst e
      rw [upd_same, sumZ_ext (ins := ins) (ins' := upd ins b s) b (fun i hi => upd_ne _ _ (by omega))]
      omega
    · rw [upd_ne _ _ (fun h => e h.symm)]
      have := ih (by omega)
      omega
/-- the work that is left -/
def solveM (n : Nat) (ins : Nat → List Int) (work : List Int) : Nat := sumZ ins n * (2 * n + 1) + work.length
theorem solveM_change {n b : Nat} {ins : Nat → List Int} {s : List Int} {work prev : List Int} (hb : b < n) (hs : zsum s < zsum (ins b)) (hp : prev.length ≤ 2 * n) (x : Int) :
    solveM n (upd ins b s) (work ++ prev) < solveM n ins (work ++ [x]) := by
  have h1 := sumZ_upd (ins := ins) (s := s) n hb
  have h2 : sumZ (upd ins b s) n + 1 ≤ sumZ ins n := by omega
  have h3 : (sumZ (upd ins b s) n + 1) * (2 * n + 1) ≤ sumZ ins n * (2 * n + 1) := Nat.mul_le_mul_right _ h2
  rw [Nat.succ_mul] at h3
  unfold solveM
  simp only [List.length_append, List.length_singleton]
  omega
/-- what the solver's sets keep -/
structure SInv (regs : Int) (L n : Nat) (blks : List S49) (ins outs prevs : Nat → List Int) (work : List Int) : Prop where
  ilen : ∀ i, i < n → (ins i).length = L
  olen : ∀ i, i < n → (outs i).length = L
  ican : ∀ i, i < n → Canon (ins i)
  ocan : ∀ i, i < n → Canon (outs i)
  ibnd : ∀ i, i < n → Bnd regs (ins i)
  obnd : ∀ i, i < n → Bnd regs (outs i)
  le : ∀ i, i < n → sLe (ins i) (liveB (rd_T49 blks i) (outs i))
  prev : ∀ i, i < n → (prevs i).length ≤ 2 * n ∧ ∀ x ∈ prevs i, 0 ≤ x ∧ x < n
  work : ∀ x ∈ work, 0 ≤ x ∧ x < n
section
variable {regs : Int} {L n : Nat} {blks : List S49} {ins outs prevs : Nat → List Int} {work : List Int}
/-- a set has been joined to the ones at a block's end -/
theorem SInv.join (h : SInv regs L n blks ins outs prevs work) (hr : regs ≤ 64 * (L : Int)) (hw : ∀ i : Nat, i < n → BlkWf regs n (rd_T49 blks i)) {b t : Nat} (hb : b < n) (ht : t < n) : SInv regs L n blks ins (upd outs b (joinL (outs b) (ins t))) prevs work := by
  obtain ⟨h1, h2, h3, h4, h5, h6, h7, h8, h9⟩ := h
  have key : ∀ {p : List Int → Prop}, (∀ i, i < n → p (outs i)) → p (joinL (outs b) (ins t)) → ∀ i, i < n → p (upd outs b (joinL (outs b) (ins t)) i) := by
    intro p hp hj i hi
    by_cases e : i = b
    · subst e; rw [upd_same]; exact hj
    · rw [upd_ne _ _ e]; exact hp i hi
  refine ⟨h1, key (p := fun s => s.length = L) h2 (by rw [joinL_len]; exact h2 b hb), h3, key (p := Canon) h4 ((h4 b hb).join _), h5, key (p := Bnd regs) h6 ((h6 b hb).join (h5 t ht)), fun i hi => ?_, h8, h9⟩
  by_cases e : i = b
  · subst e
    rw [upd_same]
    exact (h7 i hi).trans (liveB_mono (hw i hi) (by rw [h2 i hi]; exact hr) (joinL_le _ _))
  · rw [upd_ne _ _ e]; exact h7 i hi
theorem SInv.pop (h : SInv regs L n blks ins outs prevs work) {w2 : List Int} (hs : ∀ x ∈ w2, x ∈ work) : SInv regs L n blks ins outs prevs w2 :=
  ⟨h.ilen, h.olen, h.ican, h.ocan, h.ibnd, h.obnd, h.le, h.prev, fun x hx => h.work x (hs x hx)⟩
/-- a block's set has changed -/
theorem SInv.change (h : SInv regs L n blks ins outs prevs work) (hw : ∀ i : Nat, i < n → BlkWf regs n (rd_T49 blks i)) {b : Nat} (hb : b < n) : SInv regs L n blks (upd ins b (liveB (rd_T49 blks b) (outs b))) outs prevs (work ++ prevs b) := by
  obtain ⟨h1, h2, h3, h4, h5, h6, h7, h8, h9⟩ := h
  have key : ∀ {p : List Int → Prop}, (∀ i, i < n → p (ins i)) → p (liveB (rd_T49 blks b) (outs b)) → ∀ i, i < n → p (upd ins b (liveB (rd_T49 blks b) (outs b)) i) := by
    intro p hp hj i hi
    by_cases e : i = b
    · subst e; rw [upd_same]; exact hj
    · rw [upd_ne _ _ e]; exact hp i hi
  refine ⟨key (p := fun s => s.length = L) h1 (by rw [liveB_len]; exact h2 b hb), h2, key (p := Canon) h3 (liveB_canon _ (h4 b hb)), h4, key (p := Bnd regs) h5 (liveB_bnd (hw b hb) (h6 b hb)), h6, fun i hi => ?_, h8, fun x hx => ?_⟩
  · by_cases e : i = b
    · subst e; rw [upd_same]; exact sLe.refl _
    · rw [upd_ne _ _ e]; exact h7 i hi
  · rcases List.mem_append.1 hx with hx | hx
    · exact h9 x hx
    · exact (h8 b hb).2 x hx
theorem SInv.bound (h : SInv regs L n blks ins outs prevs work) (hn : n ≤ 10000) (hL : L ≤ 157) : sumZ ins n ≤ 10000 * 10048 := by
  refine Nat.le_trans (sumZ_le n h.ilen) ?_
  exact Nat.mul_le_mul hn (by omega)
end
end Go.Proofs.Ytadaopfcgpfiiaa
namespace Go.Proofs.Ytadaopfcgpfiiaa
open Go.RowKit Go.Proofs.YtadaopfcgpfiiaaW.PrintWords Go.Proofs.YtadaopfcgpfiiaaW.PrintLast Go.Proofs.YtadaopfcgpfiiaaW.PrintMore PCg
set_option linter.unusedVariables false
set_option linter.unusedSimpArgs false
/-- the keys of a map's entries are ks -/
def Keyed (es : Array MapEntry) (ks : List Int) : Prop := es.toList.map (·.key) = ks.map (Value.int .i64)
/-- block mb of w is a map whose keys are ks -/
def MSet (w : World) (mb : Nat) (ks : List Int) : Prop :=
  ∃ es clock, w.heap[mb]? = some (.map es clock) ∧ MapKept.Stamped es clock ∧ Keyed es ks
def insK (k : Int) (ks : List Int) : List Int := if k ∈ ks then ks else ks ++ [k]
theorem insK_mem {k j : Int} {ks : List Int} : j ∈ insK k ks ↔ j = k ∨ j ∈ ks := by
  unfold insK
  split
  · constructor
    · exact fun h => .inr h
    · rintro (rfl | h)
      · assumption
      · exact h
  · simp [or_comm]
/-- .. and an entry of it has the stamp b -/
def MSetB (w : World) (mb : Nat) (ks : List Int) (b : Nat) : Prop :=
  ∃ es clock, w.heap[mb]? = some (.map es clock) ∧ MapKept.Stamped es clock ∧ Keyed es ks ∧ ∃ e ∈ es.toList, e.born = b
theorem MSet.kept {w w1 : World} {mb : Nat} {ks : List Int} (h : MSet w mb ks) (hk : w1.heap[mb]? = w.heap[mb]?) : MSet w1 mb ks := by
  obtain ⟨es, c, hb, h⟩ := h
  exact ⟨es, c, hk.trans hb, h⟩
theorem MSet.lt {w : World} {mb : Nat} {ks : List Int} (h : MSet w mb ks) : mb < w.heap.size := by
  obtain ⟨es, c, hb, h⟩ := h
  exact blk_lt hb
theorem keyed_isKey {es : Array MapEntry} {ks : List Int} (h : Keyed es ks) : ∀ x ∈ es.toList, MapKept.IsKey (.int .i64) x.key := by
  intro x hx
  have : x.key ∈ es.toList.map (·.key) := List.mem_map.2 ⟨x, hx, rfl⟩
  rw [h] at this
  obtain ⟨k, _, e⟩ := List.mem_map.1 this
  rw [← e]
  exact rfl
theorem keyed_mem {es : Array MapEntry} {ks : List Int} (h : Keyed es ks) (k : Int) : k ∈ ks ↔ ∃ e ∈ es.toList, e.key = .int .i64 k := by
  constructor
  · intro hk
    have : Value.int .i64 k ∈ es.toList.map (·.key) := by rw [h]; exact List.mem_map.2 ⟨k, hk, rfl⟩
    obtain ⟨e, he, hek⟩ := List.mem_map.1 this
    exact ⟨e, he, hek⟩
  · rintro ⟨e, he, hek⟩
    have : e.key ∈ ks.map (Value.int .i64) := by rw [← h]; exact List.mem_map.2 ⟨e, he, rfl⟩
    rw [hek] at this
    obtain ⟨k', hk', e'⟩ := List.mem_map.1 this
    injection e' with _ e'
    exact e' ▸ hk'
theorem mset_grown (w : World) (mb : Nat) (o : Obj) {o' : Obj} (h : w.heap[mb]? = some o') : w.grownBy { w with heap := w.heap.setIfInBounds mb o } (some mb) :=
  ⟨rfl, rfl, rfl, by simp, fun k hk hne => (MapKept.heap_set h).2 k (fun e => hne (by rw [e]))⟩
theorem zeroBool (w : World) : (zeroValue 4).run Try.prog w = .ok (.bool false) w := by kernel_rfl
/-- m[k] = .., the first half: the entry is there -/
theorem mset_entry {w : World} {mb : Nat} {ks : List Int} (h : MSet w mb ks) (k : Int) :
    ∃ v b w1, (Instr.mapEntry 169 (.map (some mb)) (.int .i64 k)).run Try.prog w = .ok (.tuple #[v, .int .i64 ((b : Nat) : Int)]) w1 ∧ MSetB w1 mb (insK k ks) b ∧ w.grownBy w1 (some mb) := by
  obtain ⟨es, c, hb, hs, hkd⟩ := h
  have hks := keyed_isKey hkd
  have hk : MapKept.IsKey (.int .i64) (.int .i64 k) := rfl
  rcases MapKept.findNow_spec hk es.toList 0 hks with ⟨h1, h2⟩ | ⟨j, e, h1, h2, h3⟩
  · have hn : k ∉ ks := fun hm => by
      obtain ⟨e, he, hek⟩ := (keyed_mem hkd k).1 hm
      exact h2 e he hek
    refine ⟨.bool false, c, _, ?_, ⟨_, _, (MapKept.heap_set hb).1, MapKept.stamped_push hs h2, ?_, ⟨{ key := .int .i64 k, val := .bool false, born := c }, Array.mem_toList_iff.2 Array.mem_push_self, rfl⟩⟩, mset_grown w mb _ hb⟩
    · simp only [Instr.mapEntry, Sem.run_bind, run_underlying Try.underlying169, MapKept.run_getObj_map hb, MapKept.run_checkKey Try.underlying3 hk, MapKept.run_findKey Try.underlying3 h1, Result.andThen, zeroBool, MapKept.run_setObj_map _ hb, Sem.run_pure]
      rfl
    · rw [insK, if_neg hn]
      unfold Keyed at *
      simp [hkd]
  · have hj : es[j]? = some e := by simpa using h2
    have hm : k ∈ ks := (keyed_mem hkd k).2 ⟨e, List.mem_of_getElem? h2, h3⟩
    have hkey : ∀ e', es[j]? = some e' → ({ e' with key := .int .i64 k } : MapEntry).key = e'.key := fun e' he' => by rw [hj] at he'; cases he'; exact h3.symm
    have hjl : j < es.size := (Array.getElem?_eq_some_iff.1 hj).1
    refine ⟨e.val, e.born, _, ?_, ⟨_, _, (MapKept.heap_set hb).1, MapKept.stamped_modify hs j (fun e => { e with key := .int .i64 k }) (fun _ _ => rfl) (fun e' _ he' => hkey e' he'), ?_, ⟨{ e with key := .int .i64 k }, ?_, rfl⟩⟩, mset_grown w mb _ hb⟩
    · have hkk := MapKept.run_keyThatStays (P := Try.prog) (w := w) hk
      simp [Instr.mapEntry, run_underlying Try.underlying169, MapKept.run_getObj_map hb, MapKept.run_checkKey Try.underlying3 hk, MapKept.run_findKey Try.underlying3 h1, hj, h3, hkk, MapKept.run_setObj_map _ hb, Result.andThen, goInt]
    · rw [insK, if_pos hm]
      unfold Keyed at *
      rw [MapKept.modify_keys j _ hkey]
      exact hkd
    · rw [Array.mem_toList_iff]
      refine Array.mem_of_getElem? (i := j) ?_
      rw [Array.getElem?_modify]
      simp [hj]
/-- m[k] = true, the second half -/
theorem mset_store {w : World} {mb b : Nat} {ks : List Int} (h : MSetB w mb ks b) (v : Value) :
    ∃ w1, (Instr.entryStore 169 (.map (some mb)) (.int .i64 ((b : Nat) : Int)) v).run Try.prog w = .ok () w1 ∧ MSet w1 mb ks ∧ w.grownBy w1 (some mb) := by
  obtain ⟨es, c, hb, hs, hkd, e, he, heb⟩ := h
  have hf : ∃ i, es.findIdx? (fun e => (e.born : Int) == (b : Int)) = some i := by
    cases hc : es.findIdx? (fun e => (e.born : Int) == (b : Int)) with
    | some i => exact ⟨i, rfl⟩
    | none =>
      rw [Array.findIdx?_eq_none_iff] at hc
      have := hc e (Array.mem_toList_iff.1 he)
      simp [heb] at this
  obtain ⟨i, hi⟩ := hf
  refine ⟨_, ?_, ⟨_, _, (MapKept.heap_set hb).1, MapKept.stamped_modify hs i (fun e => { e with val := v }) (fun _ _ => rfl) (fun _ _ _ => rfl), ?_⟩, mset_grown w mb _ hb⟩
  · have ha : (asInt (.int .i64 (b : Int))).run Try.prog w = .ok (b : Int) w := by simp [asInt, asIntOf]
    simp only [Instr.entryStore, Sem.run_bind, MapKept.run_getObj_map hb, Result.andThen, ha, hi, MapKept.run_setObj_map _ hb]
  · unfold Keyed at *
    rw [MapKept.modify_keys i (fun e => { e with val := v }) (fun _ _ => rfl)]
    exact hkd
theorem mset_made (w : World) : MSet (w.alloc (.map #[] 0)) w.heap.size [] := ⟨#[], 0, (MapKept.heap_alloc w _).1, MapKept.stamped_empty 0, rfl⟩
/-- an iterator over the map in block mb, in block ib: the keys done have been handed out, the last one last -/
def MIter (w : World) (ib mb : Nat) (ks done : List Int) : Prop :=
  mb ≠ ib ∧ ∃ es clock since seen c0, w.heap[mb]? = some (.map es clock) ∧ MapKept.Stamped es clock ∧ Keyed es ks ∧ w.heap[ib]? = some (.mapIter (some mb) since seen c0) ∧
    (∀ x ∈ es.toList, x.born < since) ∧ since ≤ c0 ∧ since ≤ clock ∧ (∀ e ∈ es.toList, ∀ k, e.key = .int .i64 k → (seen.contains e.born = true ↔ k ∈ done)) ∧ (∀ k ∈ done, k ∈ ks) ∧ done.Nodup
theorem MIter.kept {w w1 : World} {ib mb : Nat} {ks done : List Int} (h : MIter w ib mb ks done) (h1 : w1.heap[mb]? = w.heap[mb]?) (h2 : w1.heap[ib]? = w.heap[ib]?) : MIter w1 ib mb ks done := by
  obtain ⟨hne, es, c, since, seen, c0, hm, hs, hk, hi, hr⟩ := h
  exact ⟨hne, es, c, since, seen, c0, h1.trans hm, hs, hk, h2.trans hi, hr⟩
theorem mset_range {w : World} {mb : Nat} {ks : List Int} (h : MSet w mb ks) :
    ∃ w1, (Instr.range 169 (.map (some mb))).run Try.prog w = .ok (.pointer (some ⟨w.heap.size, 0, none⟩)) w1 ∧ MIter w1 w.heap.size mb ks [] ∧ Below w.heap.size w w1 ∧ w1.heap.size = w.heap.size + 1 := by
  obtain ⟨es, c, hb, hs, hkd⟩ := h
  have hlt := blk_lt hb
  refine ⟨_, run_range_map w 169 3 4 mb es c Try.underlying169 hb, ⟨by omega, es, c, c, #[], c, ?_, hs, hkd, heap_alloc_new w _, hs.1, Nat.le_refl _, Nat.le_refl _, ?_, by simp, by simp⟩, (Below.refl _ _).alloc (Nat.le_refl _) _, by simp⟩
  · rw [heap_alloc_old w _ hlt]; exact hb
  · intro e he k hk; simp
theorem run_getObj_iter {w : World} {ib : Nat} {m : Option Nat} {a : Nat} {s : Array Nat} {b : Nat} (h : w.heap[ib]? = some (.mapIter m a s b)) : (getObj ib).run Try.prog w = .ok (.mapIter m a s b) w := by simp [getObj, Sem.run, h]
theorem miter_next {w : World} {ib mb : Nat} {ks done : List Int} (h : MIter w ib mb ks done) (t : TypeId) :
    ((∀ k ∈ ks, k ∈ done) ∧ (Instr.next (.pointer (some ⟨ib, 0, none⟩)) false t).run Try.prog w = .ok (.tuple #[.bool false]) w) ∨
    ∃ k v w1, k ∈ ks ∧ k ∉ done ∧ (Instr.next (.pointer (some ⟨ib, 0, none⟩)) false t).run Try.prog w = .ok (.tuple #[.bool true, .int .i64 k, v]) w1 ∧
      (Instr.entry (.pointer (some ⟨ib, 0, none⟩))).run Try.prog w1 = .ok (.tuple #[.int .i64 k, v]) w1 ∧ MIter w1 ib mb ks (k :: done) ∧ w.grownBy w1 (some ib) ∧ w1.heap.size = w.heap.size := by
  obtain ⟨hne, es, c, since, seen, c0, hm, hs, hkd, hi, hold, hsc, hsc2, hseen, hdk, hdn⟩ := h
  have hgi : (getObj ib).run Try.prog w = .ok (.mapIter (some mb) since seen c0) w := by simp [getObj, Sem.run, hi]
  simp only [Instr.next, Sem.run_bind, hgi, MapKept.run_getObj_map hm, Result.andThen, next_test_false seen es since c0 hold hsc, Bool.false_eq_true, if_false]
  have hL : ∀ e, e ∈ (Array.filter (fun e => !seen.contains e.born) es).toList ↔ e ∈ es.toList ∧ seen.contains e.born = false := by
    intro e
    simp
  have hmem : ∀ x ∈ (Array.filter (fun e => !seen.contains e.born) es).toList, x.born < since := fun x hx => hold x ((hL x).1 hx).1
  generalize Array.filter (fun e => !seen.contains e.born) es = L at hmem hL ⊢
  have e1 : L.filter (fun x => decide (x.born < since)) = L := Array.filter_eq_self.2 (fun x hx => by simpa using hmem x (by simpa using hx))
  have e2 : L.filter (fun x => decide (x.born ≥ since)) = #[] := by
    rw [Array.filter_eq_empty_iff]
    intro x hx
    have := hmem x (by simpa using hx)
    simp
    omega
  simp only [e1, e2, Array.append_empty]
  by_cases h0 : L.size = 0
  · left
    have : L = #[] := Array.eq_empty_of_size_eq_zero h0
    subst this
    refine ⟨fun k hk => ?_, by simp [choose, Sem.run, Question.forced]⟩
    obtain ⟨e, he, hek⟩ := (keyed_mem hkd k).1 hk
    refine (hseen e he k hek).1 ?_
    cases hc : seen.contains e.born with
    | true => rfl
    | false => have := (hL e).2 ⟨he, hc⟩; simp at this
  · right
    have hnE : L.isEmpty = false := by simp [Array.isEmpty, h0]
    simp only [hnE, Bool.false_eq_true, if_false, Array.empty_append, Array.size_map]
    have hch : ∃ (j : Nat) (w1 : World), j < L.size ∧ w.grownBy w1 none ∧ w1.heap = w.heap ∧ (choose (Question.mapNext L.size)).run Try.prog w = .ok j w1 := by
      by_cases hf : L.size ≤ 1
      · exact ⟨0, w, by omega, World.grownBy.refl w none, rfl, by simp [choose, Sem.run, Question.forced, hf]⟩
      · exact ⟨_, w.drew, Nat.mod_lt _ (by omega), ⟨rfl, rfl, rfl, Nat.le_refl _, fun _ _ _ => rfl⟩, rfl, by
          simp only [choose, Sem.run, Question.forced, decide_eq_true_eq, hf, if_false, Question.cut]
          rfl⟩
    obtain ⟨j, w1, hj, hal, hheap, hrun⟩ := hch
    obtain ⟨he, hes⟩ := (hL L[j]).1 (by simp)
    have hkj := keyed_isKey hkd L[j] he
    obtain ⟨k, hk⟩ : ∃ k, L[j].key = .int .i64 k := by
      revert hkj
      cases L[j].key <;> simp [MapKept.IsKey]
    have hi1 : w1.heap[ib]? = some (.mapIter (some mb) since seen c0) := by rw [hheap]; exact hi
    have hset : (setObj ib (.mapIter (some mb) since (seen.push L[j].born) c)).run Try.prog w1 = .ok () { w1 with heap := w1.heap.setIfInBounds ib (.mapIter (some mb) since (seen.push L[j].born) c) } := by simp [setObj, Sem.run, hi1]
    have hib : ({ w1 with heap := w1.heap.setIfInBounds ib (.mapIter (some mb) since (seen.push L[j].born) c) } : World).heap[ib]? = some (.mapIter (some mb) since (seen.push L[j].born) c) := (MapKept.heap_set hi1).1
    have hmb : ({ w1 with heap := w1.heap.setIfInBounds ib (.mapIter (some mb) since (seen.push L[j].born) c) } : World).heap[mb]? = some (.map es c) := ((MapKept.heap_set hi1).2 mb hne).trans (by rw [hheap]; exact hm)
    have hg : w.grownBy { w1 with heap := w1.heap.setIfInBounds ib (.mapIter (some mb) since (seen.push L[j].born) c) } (some ib) :=
      ⟨hal.os, hal.tape, hal.output, by simp [hheap], fun k _ hkn => ((MapKept.heap_set hi1).2 k (fun e => hkn (by rw [e]))).trans (by rw [hheap])⟩
    have hsz : ({ w1 with heap := w1.heap.setIfInBounds ib (.mapIter (some mb) since (seen.push L[j].born) c) } : World).heap.size = w.heap.size := by simp [hheap]
    refine ⟨k, L[j].val, _, (keyed_mem hkd k).2 ⟨L[j], he, hk⟩, fun hd => ?_, ?_, ?_, ⟨hne, es, c, since, _, c, hmb, hs, hkd, hib, hold, hsc2, hsc2, ?_, ?_, ?_⟩, hg, hsz⟩
    · have := (hseen _ he k hk).2 hd
      rw [hes] at this
      cases this
    · simp only [hrun, Array.getElem?_map, Array.getElem?_eq_getElem hj, Option.map_some, Sem.run_bind, hset, Result.andThen, Sem.run_pure, hk]
    · have hf : es.find? (·.born == L[j].born) = some L[j] := by rw [← Array.find?_toList]; exact find_born L[j] es.toList hs.2.1 he
      have hgi2 := run_getObj_iter hib
      simp only [Instr.entry, Sem.run_bind, hgi2, MapKept.run_getObj_map hmb, Result.andThen, Array.back?_push, bne_self_eq_false, Bool.false_eq_true, if_false, hf, hk]
      rfl
    · intro e he' k' hk'
      rw [Array.contains_push]
      have h1 := hseen e he' k' hk'
      have hinj : e.born = L[j].born → e = L[j] := fun hbn => by
        have ha := find_born e es.toList hs.2.1 he'
        have hb' := find_born L[j] es.toList hs.2.1 he
        rw [hbn] at ha
        rw [ha] at hb'
        injection hb'
      have hinj2 : e.key = L[j].key → e = L[j] := fun hbn => by
        have hp := ((MapKept.stamped_iff es c).1 hs).2.2
        obtain ⟨a, ha, hae⟩ := List.getElem_of_mem he'
        obtain ⟨b, hb2, hbe⟩ := List.getElem_of_mem he
        rcases Nat.lt_trichotomy a b with hlt | heq | hlt
        · exact absurd (by rw [hae, hbe]; exact hbn) (List.pairwise_iff_getElem.1 hp a b ha hb2 hlt)
        · subst heq; rw [← hae, ← hbe]
        · exact absurd (by rw [hae, hbe]; exact hbn.symm) (List.pairwise_iff_getElem.1 hp b a hb2 ha hlt)
      rw [Bool.or_eq_true, beq_iff_eq]
      constructor
      · rintro (h2 | h2)
        rotate_left
        · have hq := hinj h2
          rw [hq, hk] at hk'
          injection hk' with _ hk'
          rw [← hk']
          exact List.mem_cons_self ..
        · exact List.mem_cons_of_mem _ (h1.1 h2)
      · intro h2
        rcases List.mem_cons.1 h2 with h2 | h2
        · right
          rw [hinj2 (by rw [hk', hk, h2])]
        · left
          exact h1.2 h2
    · intro k' hk'
      rcases List.mem_cons.1 hk' with rfl | h2
      · exact (keyed_mem hkd _).2 ⟨L[j], he, hk⟩
      · exact hdk k' h2
    · refine List.nodup_cons.2 ⟨fun hd => ?_, hdn⟩
      have := (hseen _ he k hk).2 hd
      rw [hes] at this
      cases this
end Go.Proofs.Ytadaopfcgpfiiaa
namespace Go.Proofs.Ytadaopfcgpfiiaa
open Go.RowKit Go.Proofs.YtadaopfcgpfiiaaW.PrintWords Go.Proofs.YtadaopfcgpfiiaaW.PrintLast Go.Proofs.YtadaopfcgpfiiaaW.PrintMore PCg
set_option linter.unusedVariables false
set_option linter.unusedSimpArgs false
/-- block g of w is a row of n cells, the first k of which are maps: the i-th lies in block mb i, its keys K i are nodes other than i -/
structure Adj (w : World) (base g n k : Nat) (mb : Nat → Nat) (K : Nat → List Int) : Prop where
  row : ∃ cells : Array Value, w.heap[g]? = some (.cells cells 169 (0, 0)) ∧ cells.size = n ∧ ∀ i, i < k → cells[i]? = some (.map (some (mb i)))
  base : base ≤ g
  le : k ≤ n
  mbase : ∀ i, i < k → g < mb i
  inj : ∀ i j, i < k → j < k → mb i = mb j → i = j
  maps : ∀ i, i < k → MSet w (mb i) (K i)
  keys : ∀ i, i < k → ∀ x ∈ K i, 0 ≤ x ∧ x < n ∧ x ≠ i
section
variable {w w1 : World} {base g n k : Nat} {mb : Nat → Nat} {K : Nat → List Int}
theorem Adj.lt (h : Adj w base g n k mb K) : g < w.heap.size := by obtain ⟨c, hb, _⟩ := h.row; exact blk_lt hb
theorem Adj.step (h : Adj w base g n k mb K) (h1 : w1.heap[g]? = w.heap[g]?) (h2 : ∀ i, i < k → w1.heap[mb i]? = w.heap[mb i]?) : Adj w1 base g n k mb K := by
  obtain ⟨⟨c, hb, hr⟩, h3, h4, h5, h6, h7, h8⟩ := h
  exact ⟨⟨c, h1.trans hb, hr⟩, h3, h4, h5, h6, fun i hi => (h7 i hi).kept (h2 i hi), h8⟩
theorem Adj.below (h : Adj w base g n k mb K) (hb : Below w.heap.size w w1) : Adj w1 base g n k mb K :=
  h.step (hb.block g h.lt) (fun i hi => hb.block _ (h.maps i hi).lt)
theorem Adj.cell (h : Adj w base g n k mb K) {i : Nat} (hi : i < k) : w.cell? ⟨g, i, none⟩ = some (.map (some (mb i))) := by
  obtain ⟨c, hb, _, hc⟩ := h.row
  exact (blk_cell hb i).trans (hc i hi)
/-- a map of the row has been written -/
theorem Adj.wrote (h : Adj w base g n k mb K) {j : Nat} (hj : j < k) {w2 : World} {ks : List Int} (hg : w.grownBy w2 (some (mb j))) (hm : MSet w2 (mb j) ks) (hks : ∀ x ∈ ks, 0 ≤ x ∧ x < n ∧ x ≠ j) : Adj w2 base g n k mb (fun i => if i = j then ks else K i) := by
  have hlt := h.lt
  obtain ⟨⟨c, hb, hr⟩, h3, h4, h5, h6, h7, h8⟩ := h
  refine ⟨⟨c, (hg.block g hlt (fun e => by have := h5 j hj; injection e with e; omega)).trans hb, hr⟩, h3, h4, h5, h6, fun i hi => ?_, fun i hi => ?_⟩
  · by_cases e : i = j
    · subst e; simp only [if_true]; exact hm
    · simp only [if_neg e]
      exact (h7 i hi).kept (hg.block _ (h7 i hi).lt (fun e2 => e (h6 i j hi hj (by injection e2))))
  · by_cases e : i = j
    · subst e; simp only [if_true]; exact hks
    · simp only [if_neg e]; exact h8 i hi
/-- the next map has been made and stored -/
theorem Adj.more (h : Adj w base g n k mb K) (hk : k < n) : Adj ((w.alloc (.map #[] 0)).setCell ⟨g, k, none⟩ (.map (some w.heap.size))) base g n (k + 1) (fun i => if i = k then w.heap.size else mb i) (fun i => if i = k then [] else K i) := by
  have hlt := h.lt
  obtain ⟨⟨c, hb, hsz, hr⟩, h3, h4, h5, h6, h7, h8⟩ := h
  have hb1 : (w.alloc (.map #[] 0)).heap[g]? = some (.cells c 169 (0, 0)) := blk_alloc hb _
  have hset : ∀ b, b ≠ g → ((w.alloc (.map #[] 0)).setCell ⟨g, k, none⟩ (.map (some w.heap.size))).heap[b]? = (w.alloc (.map #[] 0)).heap[b]? := fun b hne => Below.heap_setCell _ _ _ b hne
  refine ⟨⟨c.setIfInBounds k (.map (some w.heap.size)), ?_, by simp [hsz], fun i hi => ?_⟩, h3, hk, fun i hi => ?_, fun i j hi hj e => ?_, fun i hi => ?_, fun i hi => ?_⟩
  · rw [World.setCell]
    simp only [Array.getElem?_modify, if_true, hb1, Option.map_some]
    rfl
  · rw [Array.getElem?_setIfInBounds]
    by_cases e : i = k
    · subst e; rw [if_pos rfl, if_pos (by omega), if_pos rfl]
    · rw [if_neg (fun h => e h.symm), if_neg e]; exact hr i (by omega)
  · by_cases e : i = k
    · rw [if_pos e]; exact hlt
    · rw [if_neg e]; exact h5 i (by omega)
  · by_cases e1 : i = k
    · by_cases e2 : j = k
      · omega
      · rw [if_pos e1, if_neg e2] at e
        have := (h7 j (by omega)).lt
        omega
    · by_cases e2 : j = k
      · rw [if_neg e1, if_pos e2] at e
        have := (h7 i (by omega)).lt
        omega
      · rw [if_neg e1, if_neg e2] at e
        exact h6 i j (by omega) (by omega) e
  · by_cases e : i = k
    · rw [if_pos e, if_pos e]
      exact (mset_made w).kept (hset _ (by omega))
    · rw [if_neg e, if_neg e]
      have hm := h7 i (by omega)
      exact hm.kept ((hset _ (by have := h5 i (by omega); omega)).trans ((below_alloc (Below.refl _ _) _).block _ hm.lt))
  · by_cases e : i = k
    · rw [if_pos e]; simp
    · rw [if_neg e]; exact h8 i (by omega)
end
theorem info169 : (Try.prog.info? 169).map (fun i => (i.zero, i.size, i.bytes)) = some (some (.map none), 1, 8) := by kernel_rfl
theorem adj_made (w : World) (n : Nat) (mb : Nat → Nat) (K : Nat → List Int) : Adj (w.alloc (.cells (madeCells #[.map none] n) 169)) w.heap.size w.heap.size n 0 mb K :=
  ⟨⟨madeCells #[.map none] n, blk_new w _, by simp [size_madeCells], fun i hi => by omega⟩, Nat.le_refl _, Nat.zero_le _, fun i hi => by omega, fun i j hi => by omega, fun i hi => by omega, fun i hi => by omega⟩
/-- out[i][k], out[k][i] = true, true -/
theorem adj_pair {w : World} {base g n : Nat} {mb : Nat → Nat} {K : Nat → List Int} (h : Adj w base g n n mb K) (i k : Nat) (hi : i < n) (hk : k < n) (hne : k ≠ i) :
    ∃ v1 b1 w1 w2 v2 b2 w3 w4, (Instr.mapEntry 169 (.map (some (mb i))) (.int .i64 (k : Int))).run Try.prog w = .ok (.tuple #[v1, b1]) w1 ∧ (Instr.entryStore 169 (.map (some (mb i))) b1 (.bool true)).run Try.prog w1 = .ok () w2 ∧
      (Instr.mapEntry 169 (.map (some (mb k))) (.int .i64 (i : Int))).run Try.prog w2 = .ok (.tuple #[v2, b2]) w3 ∧ (Instr.entryStore 169 (.map (some (mb k))) b2 (.bool true)).run Try.prog w3 = .ok () w4 ∧
      ∃ K', Adj w4 base g n n mb K' ∧ (∀ B, B ≤ g → Below B w w4) := by
  obtain ⟨v1, b1, w1, r1, m1, g1⟩ := mset_entry (h.maps i hi) (k : Int)
  obtain ⟨w2, r2, m2, g2⟩ := mset_store m1 (.bool true)
  have g12 := g1.trans g2
  have h2 := h.wrote hi g12 m2 (fun x hx => by
    rcases insK_mem.1 hx with rfl | hx
    · omega
    · exact h.keys i hi x hx)
  obtain ⟨v3, b3, w3, r3, m3, g3⟩ := mset_entry (h2.maps k hk) (i : Int)
  obtain ⟨w4, r4, m4, g4⟩ := mset_store m3 (.bool true)
  have g34 := g3.trans g4
  have h4 := h2.wrote hk g34 m4 (fun x hx => by
    rcases insK_mem.1 hx with rfl | hx
    · omega
    · exact h2.keys k hk x hx)
  refine ⟨v1, _, w1, w2, v3, _, w3, w4, r1, r2, r3, r4, _, h4, fun B hB => ?_⟩
  have hlt := h.lt
  have e1 : Below B w w2 := (Below.refl B w).grown g12 (by omega) (fun j e => by injection e with e; have := h.mbase i hi; omega)
  have hs2 := g12.size
  exact e1.grown g34 (by omega) (fun j e => by injection e with e; have := h.mbase k hk; omega)
end Go.Proofs.Ytadaopfcgpfiiaa
namespace Go.Proofs.Ytadaopfcgpfiiaa
open Go.RowKit Go.Proofs.YtadaopfcgpfiiaaW.PrintWords Go.Proofs.YtadaopfcgpfiiaaW.PrintLast Go.Proofs.YtadaopfcgpfiiaaW.PrintMore PCg
set_option linter.unusedVariables false
set_option linter.unusedSimpArgs false
def rdRow (xs : List (List Int)) (i : Int) : List Int := xs.getD i.toNat []
abbrev kRows : Kd (List Int) := Kd.slice 3 (Kd.int .i64)
theorem rows_at {w : World} {A : Option Addr} {n : Nat} {xs : List (List Int)} (h : Kd.C kRows w A n xs) (i : Int) (h0 : 0 ≤ i) (h1 : i < n) :
    ∃ ad A0 c0, A = some ad ∧ w.cell? (ad.add i.toNat) = some (.slice A0 (rdRow xs i).length c0) ∧ (rdRow xs i).length ≤ c0 ∧ Kd.C (Kd.int .i64) w A0 (rdRow xs i).length (rdRow xs i) := by
  obtain ⟨ad, c, e, _, hK, hc0⟩ := Kd.C_get h ([] : List Int) i h0 h1
  obtain ⟨A0, c0, rfl, l0, g0⟩ := hK
  have h2 := hc0 0 _ rfl
  refine ⟨ad, A0, c0, e, ?_, l0, g0⟩
  have e2 : i.toNat * kRows.sz + 0 = i.toNat := by simp [kRows, Kd.slice]
  rw [e2] at h2
  exact h2
theorem alloc_setCell_old {w : World} {g i : Nat} (h : g < w.heap.size) {o : Obj} {u : Value} : (w.alloc o).setCell ⟨g, i, none⟩ u = (w.setCell ⟨g, i, none⟩ u).alloc o := by
  unfold World.setCell World.alloc
  simp only [World.mk.injEq, and_true]
  apply Array.ext_getElem?
  intro j
  simp only [Array.getElem?_modify, Array.getElem?_push, Array.size_modify]
  by_cases e1 : g = j
  · subst e1
    simp only [if_true, if_neg (show ¬ g = w.heap.size by omega)]
  · simp only [if_neg e1]
def AdjPost (n : Nat) (w : World) (e : Ending) (w' : World) : Prop := ∃ g mb K, e = .returned (.slice (some ⟨g, 0, none⟩) n n) ∧ Adj w' w.heap.size g n n mb K ∧ Below w.heap.size w w'
set_option maxRecDepth 100000 in
set_option maxHeartbeats 2000000 in
theorem neighbors_any (A : Option Addr) (c : Nat) (edges : List (List Int)) (w : World) (hr : Kd.C kRows w A edges.length edges) (hcp : edges.length ≤ c) (hm : edges.length ≤ 10000) :
    Calls Try.prog 72 #[.slice A edges.length c] w (AdjPost edges.length w) := by
  have HR := Aside0.mk hr; clear hr
  have hmk : ∀ W : World, (Instr.makeSlice 165 (.int .i64 (edges.length : Int)) (.int .i64 (edges.length : Int))).run Try.prog W = .ok (.slice (some ⟨W.heap.size, 0, none⟩) edges.length edges.length) (W.alloc (.cells (madeCells #[.map none] edges.length) 169)) :=
    run_make_row' 165 169 (.map none) 8 Try.underlying165 info169 rfl .i64 .i64 edges.length (by omega) (by omega)
  have HA0 := Aside0.mk (adj_made w edges.length (fun _ => 0) (fun _ => []))
  have HB0 := Aside0.mk (below_alloc (Below.refl w.heap.size w) (.cells (madeCells #[.map none] edges.length) 169))
  go_enter Try.func72, Try.ntmps72
  go_wp2_with fail
  go_loopw [14] (fun i wr => ∃ k : Int, i = .int .i64 k ∧ 0 ≤ k ∧ k ≤ edges.length ∧ Aside0 (∃ mb K, Adj wr w.heap.size w.heap.size edges.length k.toNat mb K) ∧ Aside0 (Below w.heap.size w wr)) (fun i wr => edges.length - (intOf i).toNat)
  case atStart => exact ⟨0, rfl, Int.le_refl _, by omega, ⟨_, _, HA0.out⟩, HB0⟩
  case round =>
    obtain ⟨k, rfl, hk0, hk, ⟨mb, K, hA⟩, HB⟩ := hrel
    have HA := Aside0.mk hA; clear hA
    by_cases hlt : k < edges.length
    · have p1 := eq_true hk0
      have q1 := eq_true hlt
      have hmm : (Instr.makeMap 169 none).run Try.prog wr = .ok (.map (some wr.heap.size)) (wr.alloc (.map #[] 0)) := by rfl
      have hl := HA.out.lt
      have HA1 := HA.out.more (by omega)
      rw [alloc_setCell_old hl] at HA1
      have HA2 := Aside0.mk HA1; clear HA1
      obtain ⟨cs, hb, hsz, _⟩ := HA.out.row
      obtain ⟨v0, hv0⟩ : ∃ v0, cs[k.toNat]? = some v0 := ⟨_, Array.getElem?_eq_getElem (show k.toNat < cs.size by omega)⟩
      have hc : (wr.alloc (.map #[] 0)).cell? ⟨w.heap.size, k.toNat, none⟩ = some v0 := (blk_cell (blk_alloc hb _) k.toNat).trans hv0
      have hf : (wr.alloc (.map #[] 0)).frozen? ⟨w.heap.size, k.toNat, none⟩ = false := by simp [World.frozen?, blk_alloc hb (.map #[] 0)]
      clear hb hsz hv0
      go_wp2
      go_roundw
      case rel => exact ⟨k + 1, rfl, by omega, by omega, ⟨_, _, by rw [show (k + 1).toNat = k.toNat + 1 from by omega]; exact HA2.out⟩, ⟨(HB.out.setCell (p := ⟨w.heap.size, k.toNat, none⟩) (Nat.le_refl _) _).alloc (by simp; omega) _⟩⟩
      case measure => simp [intOf]; omega
    · obtain rfl : k = edges.length := by omega
      clear hlt
      go_wp2_with fail
      obtain ⟨w8, rfl⟩ : ∃ w8 : World, w8 = wr := ⟨_, rfl⟩
      go_loopw [24] (fun i wr => ∃ k : Int, i = .int .i64 k ∧ 0 ≤ k ∧ k ≤ edges.length ∧ Aside0 (∃ K, Adj wr w.heap.size w.heap.size edges.length edges.length mb K) ∧ Aside0 (Below w.heap.size w wr)) (fun i wr => edges.length - (intOf i).toNat)
      case atStart => exact ⟨0, rfl, Int.le_refl _, by omega, ⟨K, HA.out⟩, HB⟩
      case round =>
        clear HA HB hk0 hk
        obtain ⟨k, rfl, hk0, hk, ⟨K, hA⟩, HB⟩ := hrel
        have HA := Aside0.mk hA; clear hA
        by_cases hlt : k < edges.length
        · have p1 := eq_true hk0
          have q1 := eq_true hlt
          obtain ⟨ad, A5, c5, hA5, h0, hl5, hr5⟩ := rows_at HR.out k hk0 hlt
          cases hA5
          replace h0 := (HB.out.cell (World.block_lt_of_cell? w _ h0)).trans h0
          have hlm : (rdRow edges k).length ≤ 9223372036854775807 := hr5.2.1
          have HR5 := Aside0.mk hr5; clear hr5
          go_wp2_with fail
          go_loopw [31] (fun i wr => ∃ k2 : Int, i = .int .i64 k2 ∧ 0 ≤ k2 ∧ k2 ≤ (rdRow edges k).length ∧ Aside0 (∃ K, Adj wr w.heap.size w.heap.size edges.length edges.length mb K) ∧ Aside0 (Below w.heap.size w wr)) (fun i wr => (rdRow edges k).length - (intOf i).toNat)
          case atStart => exact ⟨0, rfl, Int.le_refl _, by omega, ⟨K, HA.out⟩, HB⟩
          case round =>
            clear HA HB h0
            obtain ⟨k2, rfl, hk20, hk2, ⟨K, hA⟩, HB⟩ := hrel
            have HA := Aside0.mk hA; clear hA
            by_cases hlt2 : k2 < (rdRow edges k).length
            · have p2 := eq_true hk20
              have q2 := eq_true hlt2
              obtain ⟨ad6, hA6, i0⟩ := Kd.at_int HR5.out k2 hk20 hlt2
              cases hA6
              replace i0 := (HB.out.cell (World.block_lt_of_cell? w _ i0)).trans i0
              generalize rd (rdRow edges k) k2 = x at *
              by_cases x0 : x < 0
              · go_wp2
                go_roundw
                case rel => exact ⟨k2 + 1, rfl, by omega, by omega, ⟨K, HA.out⟩, HB⟩
                case measure => simp [intOf]; omega
              · have x0' : 0 ≤ x := by omega
                by_cases x1 : x < edges.length
                · by_cases x2 : x = k
                  · subst x2
                    go_wp2
                    go_roundw
                    case rel => exact ⟨k2 + 1, rfl, by omega, by omega, ⟨K, HA.out⟩, HB⟩
                    case measure => simp [intOf]; omega
                  · have x2b : (x == k) = false := beq_eq_false_iff_ne.2 x2
                    have x2c : (x != k) = true := by simp [bne, x2b]
                    have y0 := HA.out.cell (i := k.toNat) (by omega)
                    have y1 := HA.out.cell (i := x.toNat) (by omega)
                    go_wp2_with fail
                    obtain ⟨v1, b1, w1, w2, v2, b2, w3, w4, r1, r2, r3, r4, K', hK', hB4⟩ := adj_pair (HA.out.below (below_drew (Below.refl _ wr))) k.toNat x.toNat (by omega) (by omega) (by omega)
                    rw [show ((k.toNat : Nat) : Int) = k from by omega] at r3
                    rw [show ((x.toNat : Nat) : Int) = x from by omega] at r1
                    have HA4 := Aside0.mk hK'
                    have HB4 := Aside0.mk (HB.out.trans ((below_drew (Below.refl w.heap.size wr)).trans (hB4 _ (Nat.le_refl _))))
                    clear hK' hB4
                    go_region
                    all_goals
                      go_wp2
                      go_roundw
                      case rel => exact ⟨k2 + 1, rfl, by omega, by omega, ⟨_, HA4.out⟩, HB4⟩
                      case measure => simp [intOf]; omega
                · go_wp2
                  go_roundw
                  case rel => exact ⟨k2 + 1, rfl, by omega, by omega, ⟨K, HA.out⟩, HB⟩
                  case measure => simp [intOf]; omega
            · go_wp2
              go_roundw
              case rel => exact ⟨k + 1, rfl, by omega, by omega, ⟨_, HA.out⟩, HB⟩
              case measure => simp [intOf]; omega
        · go_wp2
          go_ret
          exact ⟨_, _, _, rfl, HA.out, HB.out⟩
end Go.Proofs.Ytadaopfcgpfiiaa
namespace Go.Proofs.Ytadaopfcgpfiiaa
open Go.RowKit Go.Proofs.YtadaopfcgpfiiaaW.PrintWords Go.Proofs.YtadaopfcgpfiiaaW.PrintLast Go.Proofs.YtadaopfcgpfiiaaW.PrintMore PCg
set_option linter.unusedVariables false
set_option linter.unusedSimpArgs false
/-- block g of w holds the numbers ds -/
def IntBlk (w : World) (g : Nat) (ds : List Int) : Prop := w.heap[g]? = some (.cells (nums .i64 ds).toArray 3 (0, 0))
def BoolBlk (w : World) (g : Nat) (bs : List Bool) : Prop := w.heap[g]? = some (.cells (bools bs).toArray 4 (0, 0))
section
variable {w w1 : World} {g : Nat} {ds : List Int} {bs : List Bool}
theorem IntBlk.lt (h : IntBlk w g ds) : g < w.heap.size := blk_lt h
theorem BoolBlk.lt (h : BoolBlk w g bs) : g < w.heap.size := blk_lt h
theorem IntBlk.step (h : IntBlk w g ds) (h1 : w1.heap[g]? = w.heap[g]?) : IntBlk w1 g ds := h1.trans h
theorem BoolBlk.step (h : BoolBlk w g bs) (h1 : w1.heap[g]? = w.heap[g]?) : BoolBlk w1 g bs := h1.trans h
theorem IntBlk.below (h : IntBlk w g ds) (hb : Below w.heap.size w w1) : IntBlk w1 g ds := h.step (hb.block _ h.lt)
theorem BoolBlk.below (h : BoolBlk w g bs) (hb : Below w.heap.size w w1) : BoolBlk w1 g bs := h.step (hb.block _ h.lt)
theorem IntBlk.cell (h : IntBlk w g ds) (i : Int) (h0 : 0 ≤ i) (h1 : i < ds.length) : w.cell? ⟨g, i.toNat, none⟩ = some (.int .i64 (rd ds i)) := by
  refine (blk_cell h i.toNat).trans ?_
  have : i.toNat < ds.length := by omega
  simp [nums, rd, List.getD_eq_getElem?_getD, List.getElem?_eq_getElem this]
theorem BoolBlk.cell (h : BoolBlk w g bs) (i : Int) (h0 : 0 ≤ i) (h1 : i < bs.length) : w.cell? ⟨g, i.toNat, none⟩ = some (.bool (bs.getD i.toNat false)) := by
  refine (blk_cell h i.toNat).trans ?_
  have : i.toNat < bs.length := by omega
  simp [bools, List.getD_eq_getElem?_getD, List.getElem?_eq_getElem this]
theorem IntBlk.free (h : IntBlk w g ds) (i : Nat) : w.frozen? ⟨g, i, none⟩ = false := by simp [World.frozen?, show w.heap[g]? = _ from h]
theorem BoolBlk.free (h : BoolBlk w g bs) (i : Nat) : w.frozen? ⟨g, i, none⟩ = false := by simp [World.frozen?, show w.heap[g]? = _ from h]
theorem IntBlk.set (h : IntBlk w g ds) (i : Nat) (x : Int) : IntBlk (w.setCell ⟨g, i, none⟩ (.int .i64 x)) g (ds.set i x) := by
  unfold IntBlk at *
  rw [World.setCell]
  simp only [Array.getElem?_modify, if_true, h, Option.map_some]
  simp [nums, List.map_set]
theorem BoolBlk.set (h : BoolBlk w g bs) (i : Nat) (x : Bool) : BoolBlk (w.setCell ⟨g, i, none⟩ (.bool x)) g (bs.set i x) := by
  unfold BoolBlk at *
  rw [World.setCell]
  simp only [Array.getElem?_modify, if_true, h, Option.map_some]
  simp [bools, List.map_set]
theorem IntBlk.far (h : IntBlk w g ds) {b i : Nat} (hne : g ≠ b) (u : Value) : IntBlk (w.setCell ⟨b, i, none⟩ u) g ds := h.step (Below.heap_setCell w _ u g hne)
theorem BoolBlk.far (h : BoolBlk w g bs) {b i : Nat} (hne : g ≠ b) (u : Value) : BoolBlk (w.setCell ⟨b, i, none⟩ u) g bs := h.step (Below.heap_setCell w _ u g hne)
theorem intBlk_made (w : World) (n : Nat) : IntBlk (w.alloc (.cells (madeCells #[.int .i64 0] n) 3)) w.heap.size (List.replicate n 0) := by
  unfold IntBlk
  rw [blk_new]
  congr 2
  apply Array.toList_inj.1
  apply List.ext_getElem
  · simp [nums, madeCells]
  · intro i h1 h2
    simp [nums, madeCells, Nat.mod_one]
theorem boolBlk_made (w : World) (n : Nat) : BoolBlk (w.alloc (.cells (madeCells #[.bool false] n) 4)) w.heap.size (List.replicate n false) := by
  unfold BoolBlk
  rw [blk_new]
  congr 2
  apply Array.toList_inj.1
  apply List.ext_getElem
  · simp [bools, madeCells]
  · intro i h1 h2
    simp [bools, madeCells, Nat.mod_one]
end
theorem info4 : (Try.prog.info? 4).map (fun i => (i.zero, i.size, i.bytes)) = some (some (.bool false), 1, 1) := by kernel_rfl
theorem make_ints (n : Nat) (h : n ≤ 1000000) (W : World) : (Instr.makeSlice 37 (.int .i64 (n : Int)) (.int .i64 (n : Int))).run Try.prog W = .ok (.slice (some ⟨W.heap.size, 0, none⟩) n n) (W.alloc (.cells (madeCells #[.int .i64 0] n) 3)) :=
  run_make_row' 37 3 (.int .i64 0) 8 Try.underlying37 info3 rfl .i64 .i64 n (by omega) (by omega) W
theorem make_bools (n : Nat) (h : n ≤ 1000000) (W : World) : (Instr.makeSlice 192 (.int .i64 (n : Int)) (.int .i64 (n : Int))).run Try.prog W = .ok (.slice (some ⟨W.heap.size, 0, none⟩) n n) (W.alloc (.cells (madeCells #[.bool false] n) 4)) :=
  run_make_row' 192 4 (.bool false) 1 Try.underlying192 info4 rfl .i64 .i64 n (by omega) (by omega) W
def goneAt (bs : List Bool) (i : Nat) : Bool := bs.getD i false
theorem goneAt_set {bs : List Bool} {p i : Nat} (hp : p < bs.length) : goneAt (bs.set p true) i = (goneAt bs i || decide (i = p)) := by
  unfold goneAt
  simp only [List.getD_eq_getElem?_getD, List.getElem?_set]
  by_cases e : p = i
  · subst e; rw [if_pos rfl, if_pos hp]; simp
  · rw [if_neg e]; simp [show ¬ i = p from fun h => e h.symm]
/-- the ones that are gone are those in order, each once -/
structure Gone (n : Nat) (bs : List Bool) (order : List Int) : Prop where
  len : bs.length = n
  iff : ∀ i, i < n → (goneAt bs i = true ↔ (i : Int) ∈ order)
  range : ∀ x ∈ order, 0 ≤ x ∧ x < n
  cnt : bs.count false + order.length = n
theorem gone_start (n : Nat) : Gone n (List.replicate n false) [] := by
  refine ⟨by simp, fun i hi => ?_, by simp, by simp⟩
  simp [goneAt, List.getD_eq_getElem?_getD, hi]
theorem count_set_false : ∀ (bs : List Bool) (p : Nat), p < bs.length → bs.getD p false = false → (bs.set p true).count false + 1 = bs.count false := by
  intro bs
  induction bs with
  | nil => intro p hp; simp at hp
  | cons b bs ih =>
    intro p hp h
    cases p with
    | zero =>
      have : b = false := by simpa using h
      subst this
      simp
    | succ p =>
      have := ih p (by simpa using hp) (by simpa using h)
      rw [List.set_cons_succ]
      cases b <;> simp [List.count_cons] <;> omega
theorem Gone.pick {n : Nat} {bs : List Bool} {order : List Int} (h : Gone n bs order) {p : Int} (h0 : 0 ≤ p) (h1 : p < n) (hg : goneAt bs p.toNat = false) : Gone n (bs.set p.toNat true) (order ++ [p]) := by
  obtain ⟨hl, hi, hr, hc⟩ := h
  have hp : p.toNat < bs.length := by omega
  refine ⟨by simp [hl], fun i hin => ?_, fun x hx => ?_, ?_⟩
  · rw [goneAt_set hp]
    simp only [Bool.or_eq_true, decide_eq_true_eq, List.mem_append, List.mem_singleton, hi i hin]
    constructor
    · rintro (h | h)
      · exact .inl h
      · exact .inr (by omega)
    · rintro (h | h)
      · exact .inl h
      · exact .inr (by omega)
  · rcases List.mem_append.1 hx with hx | hx
    · exact hr x hx
    · simp at hx; omega
  · have := count_set_false bs p.toNat hp hg
    simp; omega
theorem count_false_pos : ∀ (bs : List Bool), 0 < bs.count false → ∃ i, i < bs.length ∧ bs.getD i false = false := by
  intro bs
  induction bs with
  | nil => intro h; simp at h
  | cons b bs ih =>
    intro h
    cases b with
    | false => exact ⟨0, by simp, rfl⟩
    | true =>
      obtain ⟨i, hi, h2⟩ := ih (by simpa using h)
      exact ⟨i + 1, by simpa using hi, by simpa using h2⟩
theorem Gone.left {n : Nat} {bs : List Bool} {order : List Int} (h : Gone n bs order) (hlt : order.length < n) : ∃ i, i < n ∧ goneAt bs i = false := by
  obtain ⟨i, hi, h2⟩ := count_false_pos bs (by have := h.cnt; omega)
  exact ⟨i, by have := h.len; omega, h2⟩
theorem Gone.all {n : Nat} {bs : List Bool} {order : List Int} (h : Gone n bs order) (hge : n ≤ order.length) (i : Nat) (hi : i < n) : (i : Int) ∈ order := by
  refine (h.iff i hi).1 ?_
  have hc : bs.count false = 0 := by have := h.cnt; omega
  have hn := List.count_eq_zero.1 hc
  unfold goneAt
  rw [List.getD_eq_getElem?_getD, List.getElem?_eq_getElem (by have := h.len; omega)]
  simp only [Option.getD_some]
  cases hb : bs[i]'(by have := h.len; omega) with
  | true => rfl
  | false => exact absurd (hb ▸ List.getElem_mem (h := by have := h.len; omega)) hn
end Go.Proofs.Ytadaopfcgpfiiaa
