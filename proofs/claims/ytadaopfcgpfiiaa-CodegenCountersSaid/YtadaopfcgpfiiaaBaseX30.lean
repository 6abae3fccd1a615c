/- Lemmas: what the theorem of the claim's last text needs, joined by a program out of the seat's texts J0, J1. -/
import Derived.Test.YtadaopfcgpfiiaaBaseX29
namespace Go.Proofs.Ytadaopfcgpfiiaa
open Go.RowKit Go.Proofs.YtadaopfcgpfiiaaW.PrintWords Go.Proofs.YtadaopfcgpfiiaaW.PrintLast Go.Proofs.YtadaopfcgpfiiaaW.PrintMore PCg
set_option linter.unusedVariables false
set_option linter.unusedSimpArgs false
theorem info159 : (Try.prog.info? 159).map (fun i => (i.zero, i.size, i.bytes)) = some (some (.slice none 0 0), 1, 24) := by kernel_rfl
theorem make_sets (n : Nat) (h : n ≤ 1000000) (W : World) : (Instr.makeSlice 157 (.int .i64 (n : Int)) (.int .i64 (n : Int))).run Try.prog W = .ok (.slice (some ⟨W.heap.size, 0, none⟩) n n) (W.alloc (.cells (madeCells #[.slice none 0 0] n) 159)) :=
  run_make_row' 157 159 (.slice none 0 0) 24 Try.underlying157 info159 rfl .i64 .i64 n (by omega) (by omega) W
theorem make_intss (n : Nat) (h : n ≤ 1000000) (W : World) : (Instr.makeSlice 126 (.int .i64 (n : Int)) (.int .i64 (n : Int))).run Try.prog W = .ok (.slice (some ⟨W.heap.size, 0, none⟩) n n) (W.alloc (.cells (madeCells #[.slice none 0 0] n) 37)) :=
  run_make_row' 126 37 (.slice none 0 0) 24 Try.underlying126 info37 rfl .i64 .i64 n (by omega) (by omega) W
/-- what solve hands back: two rows of sets -/
def SetsPost (regs : Int) (n : Nat) (w : World) (e : Ending) (w' : World) : Prop :=
  ∃ (gi go : Nat) (vo : Nat → Value) (outs : Nat → List Int), e = .returned (.tuple #[.slice (some ⟨gi, 0, none⟩) n n, .slice (some ⟨go, 0, none⟩) n n]) ∧ RowAt w' go n 159 vo ∧ w.heap.size ≤ go ∧
    (∀ i, i < n → kU.R 191 w' w.heap.size (fun _ => True) (vo i) (outs i) ∧ (outs i).length = ((regs + 63) / 64).toNat ∧ Canon (outs i) ∧ Bnd regs (outs i)) ∧ Below w.heap.size w w'
def zerosL (regs : Int) : List Int := List.replicate ((regs + 63) / 64).toNat 0
theorem newSet_any {regs : Int} (h0 : 0 ≤ regs) (h1 : regs ≤ 10000) (w : World) :
    Calls Try.prog 66 #[.int .i64 regs] w fun e w' => ∃ v, e = .returned v ∧ kU.R 191 w' w.heap.size (fun _ => True) v (zerosL regs) ∧ Below w.heap.size w w' :=
  liveness_newSet.calls regs _ w (newSet_f h0 h1)
/-- the first loop, k blocks done -/
structure Ini (regs : Int) (n : Nat) (k : Int) (ins outs prevs : Nat → List Int) (work : List Int) : Prop where
  io : ∀ i : Nat, (i : Int) < k → ins i = zerosL regs ∧ outs i = zerosL regs
  prev : ∀ i, i < n → ((prevs i).length : Int) ≤ 2 * k ∧ ∀ x ∈ prevs i, 0 ≤ x ∧ x < n
  wlen : (work.length : Int) = k
  work : ∀ x ∈ work, 0 ≤ x ∧ x < n
/-- the solver's memory with nothing left out, all but its world and labels hidden -/
def SolveAt (w wr : World) (gi go gp n : Nat) (vk : Value) (P : (Nat → List Int) → (Nat → List Int) → (Nat → List Int) → List Int → Prop) : Prop :=
  ∃ lab vi vo vp ins outs prevs work, SolveEx (fun _ => False) w wr gi go gp n lab vi vo vp ins outs prevs vk work ∧ P ins outs prevs work
section
variable {X Y : Nat → Prop} {w wr w1 w2 w3 w4 : World} {gi go gp n : Nat} {lab : Nat → Nat} {vi vo vp : Nat → Value} {ins outs prevs : Nat → List Int} {vk : Value} {work : List Int}
theorem SolveEx.weaken (h : SolveEx X w wr gi go gp n lab vi vo vp ins outs prevs vk work) (hXY : ∀ l, X l → Y l) : SolveEx Y w wr gi go gp n lab vi vo vp ins outs prevs vk work :=
  h.relabel (fun _ _ _ => rfl) hXY h.gi.1 h.go.1 h.gp.1
/-- rows that were made since belong to whom we say -/
theorem R_fresh {α : Type} {d : Kd α} {e N B L : Nat} {lab : Nat → Nat} {W W1 : World} {v : Value} {xs : List α} (h : d.R e W1 N (fun _ => True) v xs) (hB : B ≤ N) : d.R e W1 B (fun k => labN lab N L k = L) v xs :=
  Kd.R_lower (Kd.R_mono (Kd.R_bound h) (fun k hk => labN_ge hk.2.1)) hB
theorem R_relab {α : Type} {d : Kd α} {e B L M N : Nat} {lab : Nat → Nat} {W : World} {v : Value} {xs : List α} (h : d.R e W B (fun k => lab k = L) v xs) (hN : N = W.heap.size) : d.R e W B (fun k => labN lab N M k = L) v xs :=
  Kd.R_mono (Kd.R_bound h) (fun k hk => (labN_lt (by rw [hN]; exact hk.2.2.1)).trans hk.1)
theorem SolveEx.two {b : Nat} {v3 v4 : Value} {s3 s4 : List Int} (h : SolveEx (fun _ => False) w wr gi go gp n lab vi vo vp ins outs prevs vk work) (hb : b < n) (hb2 : Below wr.heap.size wr w2) (hb3 : Below w2.heap.size w2 w3) (hb4 : Below w3.heap.size w3 w4)
    (hR3 : kU.R 191 w3 w2.heap.size (fun _ => True) v3 s3) (hR4 : kU.R 191 w4 w3.heap.size (fun _ => True) v4 s4) :
    ∃ lab', SolveEx (fun _ => False) w ((w4.setCell ⟨gi, b, none⟩ v3).setCell ⟨go, b, none⟩ v4) gi go gp n lab' (upd vi b v3) (upd vo b v4) vp (upd ins b s3) (upd outs b s4) prevs vk work := by
  have S1 := ((h.after hb2).fresh (4 * b + 1)).after hb3
  have R3 := R_fresh (lab := lab) (L := 4 * b + 1) (W := w2) hR3 (h.after hb2).below.size
  have S2 := (S1.fresh (4 * b + 2)).after hb4
  have R3' := Kd.R_below (R_relab (M := 4 * b + 2) R3 rfl) hb4
  have R4 := R_fresh (lab := labN lab w2.heap.size (4 * b + 1)) (L := 4 * b + 2) (W := w3) hR4 S1.below.size
  have S3 := (S2.weaken (Y := fun l => False ∨ l = 4 * b + 1) (fun _ h => .inl h)).putI hb (fun h => h) R3'
  have R4' := R_keep (w1 := w4.setCell ⟨gi, b, none⟩ v3) R4 (fun k _ _ _ ho => Below.heap_setCell _ _ _ k (fun e => by rw [e, S2.gi.1] at ho; omega))
  exact ⟨_, (S3.weaken (Y := fun l => False ∨ l = 4 * b + 2) (fun _ h => .inl h)).putOv hb (fun h => h) R4'⟩
end
theorem iniP {n : Nat} {k k2 : Int} {prevs : Nat → List Int} {t : Nat} (h : ∀ i, i < n → ((prevs i).length : Int) ≤ 2 * k + k2 ∧ ∀ x ∈ prevs i, 0 ≤ x ∧ x < n) (ht : t < n) (hk0 : 0 ≤ k) (hk : k < n) :
    ∀ i, i < n → (((upd prevs t (prevs t ++ [k])) i).length : Int) ≤ 2 * k + (k2 + 1) ∧ ∀ x ∈ upd prevs t (prevs t ++ [k]) i, 0 ≤ x ∧ x < n := by
  intro i hi
  obtain ⟨h1, h2⟩ := h i hi
  by_cases e : i = t
  · subst e
    rw [upd_same]
    refine ⟨by simp; omega, fun x hx => ?_⟩
    rcases List.mem_append.1 hx with hx | hx
    · exact h2 x hx
    · simp at hx; omega
  · rw [upd_ne _ _ e]
    exact ⟨by omega, h2⟩
theorem iniNext {regs : Int} {n : Nat} {k : Int} {ins outs prevs prevs3 : Nat → List Int} {work : List Int} {kn : Nat} (h : Ini regs n k ins outs prevs work) (hkn : (kn : Int) = k) (hk0 : 0 ≤ k) (hk1 : k < n)
    (hp : ∀ i, i < n → ((prevs3 i).length : Int) ≤ 2 * (k + 1) ∧ ∀ x ∈ prevs3 i, 0 ≤ x ∧ x < n) : Ini regs n (k + 1) (upd ins kn (zerosL regs)) (upd outs kn (zerosL regs)) prevs3 (work ++ [k]) := by
  obtain ⟨h1, h2, h3, h4⟩ := h
  refine ⟨fun i hi => ?_, hp, by simp; omega, fun x hx => ?_⟩
  · by_cases e : i = kn
    · subst e; exact ⟨upd_same _ _ _, upd_same _ _ _⟩
    · rw [upd_ne _ _ e, upd_ne _ _ e]; exact h1 i (by omega)
  · rcases List.mem_append.1 hx with hx | hx
    · exact h4 x hx
    · simp at hx; omega
theorem zeros_le (L : Nat) {t : List Int} (h : t.length = L) : sLe (List.replicate L 0) t := by
  refine ⟨by simp [h], fun i hi => ?_⟩
  have hi' : i < L := by simpa using hi
  rw [List.getD_eq_getElem?_getD, List.getElem?_replicate, if_pos hi']
  unfold bwLe
  show bw 0 ||| _ = _
  have : bw 0 = 0#64 := rfl
  rw [this, BitVec.zero_or]
theorem sInv_start {regs : Int} {n : Nat} {blks : List S49} {ins outs prevs : Nat → List Int} {work : List Int} (q2 : 0 ≤ regs) (q3 : regs ≤ 10000) (h : Ini regs n n ins outs prevs work) : SInv regs ((regs + 63) / 64).toNat n blks ins outs prevs work := by
  obtain ⟨h1, h2, h3, h4⟩ := h
  have hz := fun i (hi : i < n) => h1 i (by omega)
  refine ⟨fun i hi => by rw [(hz i hi).1]; simp [zerosL], fun i hi => by rw [(hz i hi).2]; simp [zerosL], fun i hi => by rw [(hz i hi).1]; exact canon_zeros _, fun i hi => by rw [(hz i hi).2]; exact canon_zeros _,
    fun i hi => by rw [(hz i hi).1]; exact Bnd.zeros _ _, fun i hi => by rw [(hz i hi).2]; exact Bnd.zeros _ _, fun i hi => ?_, fun i hi => ?_, h4⟩
  · rw [(hz i hi).1, (hz i hi).2]
    exact zeros_le _ (by rw [liveB_len]; simp [zerosL])
  · have := h2 i hi
    exact ⟨by omega, this.2⟩
def markD (D : Nat) : Deferred := { target := .collected D, args := #[] }
/-- the rounds' blocks for deferred calls, none of which holds one -/
def Marks (ds : List Deferred) (lab : Nat → Nat) (B : Nat) (w : World) : Prop := ∃ Ds : List Nat, ds = Ds.map markD ∧ Ds.Nodup ∧ ∀ D ∈ Ds, w.heap[D]? = some (.deferred (some [])) ∧ lab D = 24 ∧ B ≤ D
theorem marks_nil (lab : Nat → Nat) (B : Nat) (w : World) : Marks [] lab B w := ⟨[], rfl, List.nodup_nil, fun d hd => by cases hd⟩
theorem Marks.step {ds : List Deferred} {lab : Nat → Nat} {B : Nat} {w w1 : World} (h : Marks ds lab B w) (hk : ∀ D, w.heap[D]? = some (.deferred (some [])) → lab D = 24 → w1.heap[D]? = w.heap[D]?) : Marks ds lab B w1 := by
  obtain ⟨Ds, e, hn, hD⟩ := h
  exact ⟨Ds, e, hn, fun D hd => ⟨(hk D (hD D hd).1 (hD D hd).2.1).trans (hD D hd).1, (hD D hd).2⟩⟩
theorem Marks.below {ds : List Deferred} {lab : Nat → Nat} {B : Nat} {w w1 : World} (h : Marks ds lab B w) (hb : Below w.heap.size w w1) : Marks ds lab B w1 := h.step (fun D hD _ => hb.block D (blk_lt hD))
theorem Marks.relab {ds : List Deferred} {lab lab' : Nat → Nat} {B : Nat} {w : World} (h : Marks ds lab B w) (hl : ∀ k, k < w.heap.size → lab k = 24 → lab' k = 24) : Marks ds lab' B w := by
  obtain ⟨Ds, e, hn, hD⟩ := h
  exact ⟨Ds, e, hn, fun D hd => ⟨(hD D hd).1, hl D (blk_lt (hD D hd).1) (hD D hd).2.1, (hD D hd).2.2⟩⟩
theorem Marks.cons {ds : List Deferred} {lab : Nat → Nat} {B D : Nat} {w0 w : World} (h : Marks ds lab B w) (h0 : Marks ds lab B w0) (hD : w.heap[D]? = some (.deferred (some []))) (hl : lab D = 24) (hB : B ≤ D) (hnew : w0.heap.size ≤ D) : Marks ({ target := .collected D, args := #[] } :: ds) lab B w := by
  obtain ⟨Ds, e, hn, hDs⟩ := h
  obtain ⟨Ds0, e0, hn0, hDs0⟩ := h0
  have hmk : ∀ a b : Nat, markD a = markD b → a = b := fun a b h => by
    unfold markD at h
    injection h with h
    injection h
  have he : Ds = Ds0 := by
    have := e.symm.trans e0
    clear e e0 hDs hDs0 hn hn0
    revert Ds0
    induction Ds with
    | nil => intro Ds0 h; cases Ds0 with
      | nil => rfl
      | cons a l => simp at h
    | cons a l ih => intro Ds0 h; cases Ds0 with
      | nil => simp at h
      | cons b m =>
        simp only [List.map_cons, List.cons.injEq] at h
        rw [hmk a b h.1, ih m h.2]
  subst he
  refine ⟨D :: Ds, by rw [e]; rfl, List.nodup_cons.2 ⟨fun hm => ?_, hn⟩, fun d hd => ?_⟩
  · have := blk_lt (hDs0 D hm).1
    omega
  · rcases List.mem_cons.1 hd with rfl | hd
    · exact ⟨hD, hl, hB⟩
    · exact hDs d hd
/-- the marks have been taken -/
structure Turned (Ds : List Nat) (w w' : World) : Prop where
  os : w'.os = w.os
  tape : w'.tape = w.tape
  output : w'.output = w.output
  size : w'.heap.size = w.heap.size
  same : ∀ k, k ∉ Ds → w'.heap[k]? = w.heap[k]?
theorem leavesM {P : Program} {F : Fence} {n : Nat} {fn : Func} {tmps : Array Value} {R : Ending → World → Prop} {v : Value} (hres : ∀ w : World, (results fn tmps).run P w = .ok v w) :
    ∀ (Ds : List Nat) (w : World), Ds.Nodup → (∀ D ∈ Ds, w.heap[D]? = some (.deferred (some []))) → (∀ w', Turned Ds w w' → R (.returned v) w') → LeavesInM F n P fn tmps R (Ds.map markD) .returning w := by
  intro Ds
  induction Ds with
  | nil =>
    intro w _ _ hR
    exact ⟨v, hres w, hR w ⟨rfl, rfl, rfl, rfl, fun _ _ => rfl⟩⟩
  | cons D Ds ih =>
    intro w hn hD hR
    obtain ⟨h1, h2⟩ := List.nodup_cons.1 hn
    have hd := hD D (List.mem_cons_self ..)
    refine ⟨by simp, .inl ⟨D, w.putObj D (.deferred none), rfl, run_takeDeferred hd, ?_⟩⟩
    refine ih _ h2 (fun E hE => (World.putObj_heap_other (fun e => h1 (by rw [← e]; exact hE))).trans (hD E (List.mem_cons_of_mem _ hE))) (fun w' ht => hR w' ⟨ht.os, ht.tape, ht.output, ?_, fun k hk => ?_⟩)
    · rw [ht.size]; simp [World.putObj]
    · rw [ht.same k (fun h => hk (List.mem_cons_of_mem _ h))]
      exact World.putObj_heap_other (fun e => hk (by rw [e]; exact List.mem_cons_self ..))
def SolveRel (regs : Int) (blks : List S49) (w1 wr : World) (gi go gp : Nat) (vk : Value) (ds : List Deferred) (m : Nat) : Prop :=
  ∃ lab vi vo vp ins outs prevs work, SolveEx (fun _ => False) w1 wr gi go gp blks.length lab vi vo vp ins outs prevs vk work ∧ Marks ds lab w1.heap.size wr ∧ SInv regs ((regs + 63) / 64).toNat blks.length blks ins outs prevs work ∧ m = solveM blks.length ins work ∧ m ≤ 2010000000000
theorem solveM_bound {regs : Int} {n : Nat} {blks : List S49} {ins outs prevs : Nat → List Int} {work : List Int} (hn : n ≤ 10000) (q3 : regs ≤ 10000) (h : SInv regs ((regs + 63) / 64).toNat n blks ins outs prevs work) (hw : (work.length : Int) = n) : solveM n ins work ≤ 2010000000000 := by
  have h1 := h.bound hn (by omega)
  have h2 : sumZ ins n * (2 * n + 1) ≤ 10000 * 10048 * 20001 := Nat.mul_le_mul h1 (by omega)
  unfold solveM
  omega
theorem infoINT_spec : Try.prog.info? 3 = some (Option.get (Try.prog.info? 3) (by kernel_rfl)) := by kernel_rfl
theorem nil_or_snoc (l : List Int) : l = [] ∨ ∃ ws x, l = ws ++ [x] := by
  rcases List.eq_nil_or_concat l with h | ⟨L, b, h⟩
  · exact .inl h
  · exact .inr ⟨L, b, by rw [h, List.concat_eq_append]⟩
theorem cell_setFar {W : World} {b o b' o' : Nat} {u v : Value} (h : W.cell? ⟨b, o, none⟩ = some v) (hne : b ≠ b') : (W.setCell ⟨b', o', none⟩ u).cell? ⟨b, o, none⟩ = some v :=
  (World.cell?_of_block (Below.heap_setCell W ⟨b', o', none⟩ u b hne)).trans h
/-- the two rows made -/
def TwoMade (n : Nat) (w : World) (v2 v3 : Value) (w' : World) : Prop :=
  ∃ gi go, v2 = .slice (some ⟨gi, 0, none⟩) n n ∧ v3 = .slice (some ⟨go, 0, none⟩) n n ∧ RowAt w' gi n 159 (fun _ => .slice none 0 0) ∧ RowAt w' go n 159 (fun _ => .slice none 0 0) ∧ gi ≠ go ∧ w.heap.size ≤ gi ∧ w.heap.size ≤ go ∧ Below w.heap.size w w'
section
variable {X Y : Nat → Prop} {w wr w1 w2 : World} {gi go gp n : Nat} {lab : Nat → Nat} {vi vo vp : Nat → Value} {ins outs prevs : Nat → List Int} {vk : Value} {work : List Int}
/-- a row has been written in place -/
theorem R_same {d : Kd Int} {e B : Nat} {ok ok' : Nat → Prop} {W W' : World} {u : Value} {l l' : List Int} (hE : d.E = []) (h : d.R e W B ok u l) (h' : d.R e W' B ok' u l') : d.R e W' B ok u l' :=
  Kd.R_mono (Kd.R_tight hE h') (fun k hk => h.1 k hk.symm)
theorem SolveEx.joined (h : SolveEx (fun _ => False) w wr gi go gp n lab vi vo vp ins outs prevs vk work) {b : Nat} (hb : b < n) {s : List Int} {P : Nat → Prop} (hB : Below w.heap.size w w2) (hk : Kept wr w2 (fun k => lab k = 4 * b + 2))
    (hR : kU.R 191 w2 w.heap.size P (vo b) s) : SolveEx (fun _ => False) w w2 gi go gp n lab vi vo vp ins (upd outs b s) prevs vk work :=
  (h.kept (L := 4 * b + 2) hk (fun _ hk => hk) hB).putO (R_same rfl (h.lo b hb (fun h => h)) hR)
theorem SolveEx.popped {ad : Addr} {m cw : Nat} {ws : List Int} {x : Int} (h : SolveEx (fun _ => False) w wr gi go gp n lab vi vo vp ins outs prevs (.slice (some ad) m cw) (ws ++ [x])) {k : Nat} (hk : k = ws.length) : SolveEx (fun _ => False) w wr gi go gp n lab vi vo vp ins outs prevs (.slice (some ad) k cw) ws := by
  have h1 := Kd.R_take (m := k) (h.lk (fun h => h)) (by simp; omega)
  rw [hk, List.take_left'] at h1
  · rw [← hk] at h1
    exact (h.weaken (Y := fun l => False ∨ l = 0) (fun _ h => .inl h)).putK h1
  · rfl
theorem SInv.join1 {regs : Int} {L : Nat} {blks : List S49} (h : SInv regs L n blks ins outs prevs work) (hr : regs ≤ 64 * (L : Int)) (hw : ∀ b ∈ blks, BlkWf regs n b) (hn : blks.length = n) {b t : Nat} (hb : b < n) (ht : t < n) : SInv regs L n blks ins (upd outs b (joinL (outs b) (ins t))) prevs work :=
  h.join hr (fun i hi => hw _ (mem_rd (z := z49) (i := (i : Int)) (by omega) (by omega))) hb ht
end
/-- the set live at a block's end, in a variable of its own -/
def LiveMade (w : World) (s : List Int) (v13 : Value) (wx : World) : Prop :=
  ∃ bl A c, v13 = .pointer (some ⟨bl, 0, none⟩) ∧ wx.heap[bl]? = some (.cells #[.slice A s.length c] 159 (0, 0)) ∧ kU.R 191 wx w.heap.size (fun _ => True) (.slice A s.length c) s ∧ Below w.heap.size w wx ∧ w.heap.size ≤ bl
theorem liveMade1 {wr w8 : World} {s : List Int} {A : Option Addr} {c : Nat} (hR : kU.R 191 w8 wr.drew.heap.size (fun _ => True) (.slice A s.length c) s) (hb : Below wr.drew.heap.size wr.drew w8) :
    LiveMade wr s (.pointer (some ⟨w8.heap.size, 0, none⟩)) (w8.alloc (.cells #[.slice A s.length c] 159)) :=
  ⟨w8.heap.size, A, c, rfl, blk_new _ _, Kd.R_below hR (below_alloc (Below.refl _ _) _), below_alloc (below_step (below_drew (Below.refl _ _)) hb) _, hb.size⟩
theorem liveMade2 {wr w8 : World} {s : List Int} {A : Option Addr} {c : Nat} (hR : kU.R 191 w8 (wr.alloc (.cells #[.slice none 0 0] 159)).drew.heap.size (fun _ => True) (.slice A s.length c) s) (hb : Below (wr.alloc (.cells #[.slice none 0 0] 159)).drew.heap.size (wr.alloc (.cells #[.slice none 0 0] 159)).drew w8) :
    LiveMade wr s (.pointer (some ⟨wr.heap.size, 0, none⟩)) (w8.setCell ⟨wr.heap.size, 0, none⟩ (.slice A s.length c)) := by
  have hbl := blk_below (show (wr.alloc (.cells #[.slice none 0 0] 159)).drew.heap[wr.heap.size]? = some (.cells #[.slice none 0 0] 159 (0, 0)) from blk_new wr _) hb
  refine ⟨wr.heap.size, A, c, rfl, ?_, ?_, (below_step (below_drew (below_alloc (Below.refl _ _) _)) hb).setCell (p := ⟨wr.heap.size, 0, none⟩) (Nat.le_refl _) _, Nat.le_refl _⟩
  · rw [World.setCell]
    simp only [Array.getElem?_modify, if_true, hbl, Option.map_some]
    rfl
  · refine Kd.R_lower (Kd.R_far (Kd.R_mono (ok' := fun k => k ≠ wr.heap.size) (Kd.R_bound hR) (fun k hk => by
      have h1 := hk.2.1
      have h2 : (wr.alloc (.cells #[.slice none 0 0] 159)).drew.heap.size = wr.heap.size + 1 := World.size_alloc _ _
      omega)) (fun k hk => hk) _ |> fun h => Kd.R_mono h (fun _ _ => trivial)) ?_
    have h2 : (wr.alloc (.cells #[.slice none 0 0] 159)).drew.heap.size = wr.heap.size + 1 := World.size_alloc _ _
    omega
section
variable {X Y : Nat → Prop} {w wr w1 w2 : World} {gi go gp n : Nat} {lab : Nat → Nat} {vi vo vp : Nat → Value} {ins outs prevs : Nat → List Int} {vk : Value} {work : List Int}
/-- a label that no row bears -/
theorem SolveEx.drop {L : Nat} (h : SolveEx (fun l => X l ∨ l = L) w wr gi go gp n lab vi vo vp ins outs prevs vk work) (hL : L % 4 = 0 ∧ 12 < L) : SolveEx X w wr gi go gp n lab vi vo vp ins outs prevs vk work where
  below := h.below
  ri := fun hx => h.ri (fun hy => hy.elim hx (by omega))
  ro := fun hx => h.ro (fun hy => hy.elim hx (by omega))
  rp := fun hx => h.rp (fun hy => hy.elim hx (by omega))
  li := fun i hi hx => h.li i hi (fun hy => hy.elim hx (by omega))
  lo := fun i hi hx => h.lo i hi (fun hy => hy.elim hx (by omega))
  lp := fun i hi hx => h.lp i hi (fun hy => hy.elim hx (by omega))
  lk := fun hx => h.lk (fun hy => hy.elim hx (by omega))
  gi := h.gi
  go := h.go
  gp := h.gp
/-- labels that no row bears may turn -/
theorem SolveEx.relabel2 (h : SolveEx X w wr gi go gp n lab vi vo vp ins outs prevs vk work) {lab' : Nat → Nat} (hl : ∀ k, k < wr.heap.size → (lab k % 4 ≠ 0 ∨ lab k ≤ 12) → ¬ Y (lab k) → lab' k = lab k) (hXY : ∀ l, X l → Y l) (h4 : ¬ Y 4) (h8 : ¬ Y 8) (h12 : ¬ Y 12) : SolveEx Y w wr gi go gp n lab' vi vo vp ins outs prevs vk work where
  below := h.below
  ri := fun hy => h.ri (fun hx => hy (hXY _ hx))
  ro := fun hy => h.ro (fun hx => hy (hXY _ hx))
  rp := fun hy => h.rp (fun hx => hy (hXY _ hx))
  li := fun i hi hy => Kd.R_mono (Kd.R_bound (h.li i hi (fun hx => hy (hXY _ hx)))) (fun k hk => by rw [hl k hk.2.2.1 (by have := hk.1; omega) (by rw [hk.1]; exact hy)]; exact hk.1)
  lo := fun i hi hy => Kd.R_mono (Kd.R_bound (h.lo i hi (fun hx => hy (hXY _ hx)))) (fun k hk => by rw [hl k hk.2.2.1 (by have := hk.1; omega) (by rw [hk.1]; exact hy)]; exact hk.1)
  lp := fun i hi hy => Kd.R_mono (Kd.R_bound (h.lp i hi (fun hx => hy (hXY _ hx)))) (fun k hk => by rw [hl k hk.2.2.1 (by have := hk.1; omega) (by rw [hk.1]; exact hy)]; exact hk.1)
  lk := fun hy => Kd.R_mono (Kd.R_bound (h.lk (fun hx => hy (hXY _ hx)))) (fun k hk => by rw [hl k hk.2.2.1 (by have := hk.1; omega) (by rw [hk.1]; exact hy)]; exact hk.1)
  gi := ⟨(hl gi h.gi.2.2 (by have := h.gi.1; omega) (by rw [h.gi.1]; exact h4)).trans h.gi.1, h.gi.2⟩
  go := ⟨(hl go h.go.2.2 (by have := h.go.1; omega) (by rw [h.go.1]; exact h8)).trans h.go.1, h.go.2⟩
  gp := ⟨(hl gp h.gp.2.2 (by have := h.gp.1; omega) (by rw [h.gp.1]; exact h12)).trans h.gp.1, h.gp.2⟩
end
theorem callFunc_Backward1 (args : Array Value) (W : World) : (callFunc 110 args).run Try.prog W = .ok (.enter 110 args) W := by kernel_rfl
/-- what the rounds over a block's instructions keep -/
structure LiveI (w1 W9 : World) (gi go gp n : Nat) (lab : Nat → Nat) (vi vo vp : Nat → Value) (ins outs prevs : Nat → List Int) (vk : Value) (work : List Int) (bl : Nat) (vl : Value) (s0 : List Int) (regs : Int) (pre : List { x : Int × S51 // insWf regs x.2 }) (W : World) : Prop where
  st : SolveEx (fun _ => False) w1 W gi go gp n lab vi vo vp ins outs prevs vk work
  mrk : ∀ D, W9.heap[D]? = some (.deferred (some [])) → lab D = 24 → W.heap[D]? = W9.heap[D]?
  live : kU.R 191 W w1.heap.size (fun k => some k = vl.ownBlock) vl (backL (pre.map (·.1.2)) s0)
  box : W.heap[bl]? = some (.cells #[vl] 159 (0, 0))
  big : W9.heap.size ≤ W.heap.size
section
variable {w1 W9 W W' : World} {gi go gp n : Nat} {lab : Nat → Nat} {vi vo vp : Nat → Value} {ins outs prevs : Nat → List Int} {vk : Value} {work : List Int} {bl : Nat} {vl : Value} {s0 : List Int} {regs : Int} {pre : List { x : Int × S51 // insWf regs x.2 }}
theorem LiveI.own (hb1 : w1.heap.size ≤ W9.heap.size) : OwnFrom W9.heap.size (LiveI w1 W9 gi go gp n lab vi vo vp ins outs prevs vk work bl vl s0 regs) := fun pre W W' row h hg hr => by
  obtain ⟨h1, h2, h3, h4, h5⟩ := h
  have hcells : ∀ (k : Nat) (cells : Array Value) (t : TypeId), W.heap[k]? = some (Obj.cells cells t (0, 0)) → W'.heap[k]? = W.heap[k]? := fun k cells t hc => hg.block k (blk_lt hc) (fun e => by
    obtain ⟨_, o, ho, hc2⟩ := hr k e.symm
    rw [hc] at ho
    injection ho with ho
    subst ho
    cases hc2)
  refine ⟨h1.own hg (fun r e => ⟨Nat.le_trans hb1 (hr r e).1, (hr r e).2⟩), fun D hD hl => ?_, R_keep h3 (fun k cells t hc _ => hcells k cells t hc), (hcells _ _ _ h4).trans h4, Nat.le_trans h5 hg.size⟩
  have hlt := blk_lt hD
  rw [← h2 D hD hl]
  exact hg.block D (blk_lt ((h2 D hD hl).trans hD)) (fun e => by have := (hr D e.symm).1; omega)
theorem LiveI.below (h : LiveI w1 W9 gi go gp n lab vi vo vp ins outs prevs vk work bl vl s0 regs pre W) (hb : Below W.heap.size W W') : LiveI w1 W9 gi go gp n lab vi vo vp ins outs prevs vk work bl vl s0 regs pre W' :=
  ⟨h.st.after hb, fun D hD hl => (hb.block D (blk_lt ((h.mrk D hD hl).trans hD))).trans (h.mrk D hD hl), Kd.R_below h.live hb, blk_below h.box hb, Nat.le_trans h.big hb.size⟩
theorem LiveI.round (h : LiveI w1 W9 gi go gp n lab vi vo vp ins outs prevs vk work bl vl s0 regs pre W) (hq : ∀ q, vl.ownBlock = some q → lab q = 16 ∧ q ≠ bl) (hB : Below w1.heap.size w1 W') (hk : Kept W W' (fun k => some k = vl.ownBlock)) (x : { x : Int × S51 // insWf regs x.2 }) {P : Nat → Prop}
    (hR : kU.R 191 W' w1.heap.size P vl (beforeL x.1.2 (backL (pre.map (·.1.2)) s0))) : LiveI w1 W9 gi go gp n lab vi vo vp ins outs prevs vk work bl vl s0 regs (pre ++ [x]) W' := by
  refine ⟨(h.st.kept (L := 16) hk (fun k hk => (hq k hk.symm).1) hB).drop (by omega), fun D hD hl => ?_, ?_, ?_, Nat.le_trans h.big hk.1⟩
  · rw [← h.mrk D hD hl]
    exact hk.2 D (blk_lt ((h.mrk D hD hl).trans hD)) (fun e => by have := (hq D e.symm).1; omega)
  · have e : backL ((pre ++ [x]).map (·.1.2)) s0 = beforeL x.1.2 (backL (pre.map (·.1.2)) s0) := by simp [backL]
    rw [e]
    exact Kd.R_tight rfl hR
  · exact (hk.2 bl (blk_lt h.box) (fun e => (hq bl e.symm).2 rfl)).trans h.box
theorem LiveI.kbAlloc {w : World} {bx : Nat} (h : LiveI w1 W9 gi go gp n lab vi vo vp ins outs prevs vk work bl vl s0 regs pre W) (hw : w.heap.size ≤ W9.heap.size) (hx : bx < W9.heap.size) (o : Obj) : KB w.heap.size bx W (W.alloc o) :=
  ⟨(Below.refl _ _).alloc (Nat.le_trans hw h.big) o, (below_alloc (Below.refl _ _) o).block bx (by have := h.big; omega)⟩
theorem LiveI.kbRound {w : World} {bx : Nat} (h : LiveI w1 W9 gi go gp n lab vi vo vp ins outs prevs vk work bl vl s0 regs pre W) (hw : w.heap.size ≤ w1.heap.size) (hx : bx < W9.heap.size) (hB : Below w1.heap.size w1 W') (hk : Kept W W' (fun k => some k = vl.ownBlock)) (hq : ∀ q, vl.ownBlock = some q → q ≠ bx ∧ w1.heap.size ≤ q) : KB w.heap.size bx W W' :=
  ⟨⟨hB.os.trans h.st.below.os.symm, hB.tape.trans h.st.below.tape.symm, hB.output.trans h.st.below.output.symm, hk.1, fun i hi => hk.2 i (by have := h.st.below.size; omega) (fun e => by have := (hq i e.symm).2; omega)⟩,
    hk.2 bx (by have := h.big; omega) (fun e => (hq bx e.symm).1 rfl)⟩
/-- .. and nothing that is no cells turns -/
theorem LiveI.keeps (h : LiveI w1 W9 gi go gp n lab vi vo vp ins outs prevs vk work bl vl s0 regs pre W) (hk : Kept W W' (fun k => some k = vl.ownBlock)) : KeepsFrom W9.heap.size W W' :=
  ⟨hk.1, fun k o _ hk2 ho => (hk.2 k (blk_lt hk2) (fun e => by
    obtain ⟨cells, hc⟩ := Kd.R_typed h.live k e.symm
    rw [hk2] at hc
    injection hc with hc
    subst hc
    cases ho)).trans hk2⟩
end
theorem solveM_pop (n : Nat) (ins : Nat → List Int) (ws : List Int) (x : Int) : solveM n ins ws < solveM n ins (ws ++ [x]) := by
  unfold solveM
  simp only [List.length_append, List.length_singleton]
  omega
theorem back_rev {regs : Int} {code : List S51} {xs : List { x : Int × S51 // insWf regs x.2 }} (h : xs.map (·.1) = seqB code code.length) : xs.map (·.1.2) = code.reverse := by
  rw [← seqB_all code, ← h]
  simp
section
variable {w wr w1 : World} {gi go gp n : Nat} {lab : Nat → Nat} {vi vo vp : Nat → Value} {ins outs prevs : Nat → List Int} {vk : Value} {work : List Int}
/-- in[b] = live: live's block changes hands -/
theorem SolveEx.takeLive (h : SolveEx (fun _ => False) w wr gi go gp n lab vi vo vp ins outs prevs vk work) {b : Nat} (hb : b < n) {v : Value} {s : List Int} (hR : kU.R 191 wr w.heap.size (fun k => some k = v.ownBlock) v s) (hq : ∀ q, v.ownBlock = some q → lab q = 16) :
    ∃ lab', (∀ k, lab k = 24 → lab' k = 24) ∧ SolveEx (fun _ => False) w (wr.setCell ⟨gi, b, none⟩ v) gi go gp n lab' (upd vi b v) vo vp (upd ins b s) outs prevs vk work := by
  refine ⟨fun k => if lab k = 16 then 4 * b + 1 else if lab k = 4 * b + 1 then 32 else lab k, fun k hk => by simp only [hk]; rw [if_neg (by omega), if_neg (by omega)], ?_⟩
  have h2 := h.relabel2 (Y := fun l => False ∨ l = 4 * b + 1) (lab' := fun k => if lab k = 16 then 4 * b + 1 else if lab k = 4 * b + 1 then 32 else lab k) (fun k _ hc hn => by
    rw [if_neg (by omega), if_neg (fun e => hn (.inr e))]) (fun _ h => .inl h) (fun h => h.elim (fun h => h) (by omega)) (fun h => h.elim (fun h => h) (by omega)) (fun h => h.elim (fun h => h) (by omega))
  exact h2.putI hb (fun h => h) (Kd.R_mono hR (fun k hk => if_pos (hq k hk.symm)))
end
theorem SolveEx.turned {w wr w' : World} {gi go gp n : Nat} {lab : Nat → Nat} {vi vo vp : Nat → Value} {ins outs prevs : Nat → List Int} {vk : Value} {work : List Int} (h : SolveEx (fun _ => False) w wr gi go gp n lab vi vo vp ins outs prevs vk work)
    {Ds : List Nat} (hDs : ∀ D ∈ Ds, wr.heap[D]? = some (.deferred (some [])) ∧ lab D = 24 ∧ w.heap.size ≤ D) (ht : Turned Ds wr w') : SolveEx (fun _ => False) w w' gi go gp n lab vi vo vp ins outs prevs vk work :=
  h.step (fun _ h => h) ⟨ht.os.trans h.below.os, ht.tape.trans h.below.tape, ht.output.trans h.below.output, by rw [ht.size]; exact h.below.size, fun i hi => (ht.same i (fun hm => by have := (hDs i hm).2.2; omega)).trans (h.below.block i hi)⟩ (by rw [ht.size]; exact Nat.le_refl _)
    (fun k cells t hc _ => ht.same k (fun hm => by have := (hDs k hm).1; rw [hc] at this; simp at this))
theorem sets_done {w0 w wr : World} {regs : Int} {blks : List S49} {gi go gp : Nat} {lab : Nat → Nat} {vi vo vp : Nat → Value} {ins outs prevs : Nat → List Int} {vk : Value} {work : List Int} (h : SolveEx (fun _ => False) w wr gi go gp blks.length lab vi vo vp ins outs prevs vk work)
    (hI : SInv regs ((regs + 63) / 64).toNat blks.length blks ins outs prevs work) (hb : Below w0.heap.size w0 w) : SetsPost regs blks.length w0 (.returned (.tuple #[.slice (some ⟨gi, 0, none⟩) blks.length blks.length, .slice (some ⟨go, 0, none⟩) blks.length blks.length])) wr :=
  ⟨gi, go, vo, outs, rfl, h.ro (fun h => h), Nat.le_trans hb.size h.go.2.1, fun i hi => ⟨Kd.R_lower (Kd.R_mono (h.lo i hi (fun h => h)) (fun _ _ => trivial)) hb.size, hI.olen i hi, hI.ocan i hi, hI.obnd i hi⟩, below_then hb hb.size h.below⟩
end Go.Proofs.Ytadaopfcgpfiiaa
namespace Go.Proofs.Ytadaopfcgpfiiaa
open Go.RowKit Go.Proofs.YtadaopfcgpfiiaaW.PrintWords Go.Proofs.YtadaopfcgpfiiaaW.PrintLast Go.Proofs.YtadaopfcgpfiiaaW.PrintMore PCg
set_option linter.unusedVariables false
set_option linter.unusedSimpArgs false
/-- Interference's memory: lab tells a block's owner: 2 i + 1: the i-th set; 0: the row itself -/
structure SetsAt (L : Nat) (w wr : World) (gs n : Nat) (lab : Nat → Nat) (vs : Nat → Value) (xs : Nat → List Int) : Prop where
  below : Below w.heap.size w wr
  rs : RowAt wr gs n 159 vs
  ls : ∀ i, i < n → kU.R 191 wr w.heap.size (fun b => lab b = 2 * i + 1) (vs i) (xs i)
  len : ∀ i, i < n → (xs i).length = L
  can : ∀ i, i < n → Canon (xs i)
  gs : lab gs = 0 ∧ w.heap.size ≤ gs
section
variable {L : Nat} {w wr w1 : World} {gs n : Nat} {lab lab' : Nat → Nat} {vs : Nat → Value} {xs : Nat → List Int}
theorem SetsAt.step (h : SetsAt L w wr gs n lab vs xs) (hb : Below w.heap.size w w1) (hk : ∀ k cells t, wr.heap[k]? = some (.cells cells t (0, 0)) → lab k = 0 ∨ lab k % 2 = 1 → w1.heap[k]? = wr.heap[k]?) : SetsAt L w w1 gs n lab vs xs :=
  ⟨hb, h.rs.step (fun cells hc => hk _ cells _ hc (.inl h.gs.1)), fun i hi => R_keep (h.ls i hi) (fun k cells t hc ho => hk k cells t hc (.inr (by omega))), h.len, h.can, h.gs⟩
theorem SetsAt.after (h : SetsAt L w wr gs n lab vs xs) (hb : Below wr.heap.size wr w1) : SetsAt L w w1 gs n lab vs xs :=
  h.step (below_step h.below hb) (fun k cells t hc _ => hb.block k (blk_lt hc))
theorem SetsAt.relab (h : SetsAt L w wr gs n lab vs xs) (hl : ∀ k, k < wr.heap.size → (lab k = 0 ∨ lab k % 2 = 1) → lab' k = lab k) : SetsAt L w wr gs n lab' vs xs :=
  ⟨h.below, h.rs, fun i hi => Kd.R_mono (Kd.R_bound (h.ls i hi)) (fun k hk => by rw [hl k hk.2.2.1 (.inr (by have := hk.1; omega))]; exact hk.1), h.len, h.can, ⟨(hl gs h.rs.lt (.inl h.gs.1)).trans h.gs.1, h.gs.2⟩⟩
/-- one of the sets has been written -/
theorem SetsAt.wrote (h : SetsAt L w wr gs n lab vs xs) {b : Nat} (hb : b < n) {s : List Int} {P : Nat → Prop} (hB : Below w.heap.size w w1) (hk : Kept wr w1 (fun k => lab k = 2 * b + 1)) (hR : kU.R 191 w1 w.heap.size P (vs b) s) (hl : s.length = L) (hc : Canon s) :
    SetsAt L w w1 gs n lab vs (upd xs b s) := by
  have key : ∀ {p : Nat → List Int → Prop}, (∀ i, i < n → p i (xs i)) → p b s → ∀ i, i < n → p i (upd xs b s i) := by
    intro p hp hj i hi
    by_cases e : i = b
    · subst e; rw [upd_same]; exact hj
    · rw [upd_ne _ _ e]; exact hp i hi
  refine ⟨hB, h.rs.step (fun cells hc => hk.2 gs (blk_lt hc) (fun e => by have := h.gs.1; omega)), fun i hi => ?_, key (p := fun _ s => s.length = L) h.len hl, key (p := fun _ s => Canon s) h.can hc, h.gs⟩
  by_cases e : i = b
  · subst e; rw [upd_same]; exact R_same rfl (h.ls i hi) hR
  · rw [upd_ne _ _ e]
    exact R_keep (h.ls i hi) (fun k cells t hc ho => hk.2 k (blk_lt hc) (fun e2 => by have h3 : lab k = 2 * b + 1 := e2; have h4 : lab k = 2 * i + 1 := ho; omega))
end
/-- what the function handed to visit leaves -/
def ActPost (L : Nat) (w0 : World) (gs n : Nat) (lab : Nat → Nat) (vs : Nat → Value) (w : World) (e : Ending) (w' : World) : Prop :=
  e = .returned (.tuple #[]) ∧ ∃ xs, SetsAt L w0 w' gs n lab vs xs ∧ Kept w w' (fun k => lab k % 2 = 1)
theorem add_row {L : Nat} {w0 w : World} {gs n : Nat} {lab : Nat → Nat} {vs : Nat → Value} {xs : Nat → List Int} (h : SetsAt L w0 w gs n lab vs xs) {b : Nat} (hb : b < n) {q : Int} (h0 : 0 ≤ q) (h1 : q < 64 * L) (hL : L ≤ 1000000) :
    Calls Try.prog 71 #[vs b, .int .i64 q] w fun e w' => e = .returned (.tuple #[]) ∧ SetsAt L w0 w' gs n lab vs (upd xs b (setAdd (xs b) q)) ∧ Kept w w' (fun k => lab k % 2 = 1) := by
  have hl := h.len b hb
  refine (liveness_set_add.calls (fun k => lab k = 2 * b + 1) (vs b) (xs b) q _ w0 w h.below (h.ls b hb) (setAdd_f h0 (by rw [hl]; exact h1) (by rw [hl]; exact hL))).mono ?_
  rintro e w' ⟨rfl, hR, hB, hK⟩
  exact ⟨rfl, h.wrote hb hB hK hR (by rw [setAdd_len]; exact hl) ((h.can b hb).add q), hK.mono (fun k hk => by have h2 : lab k = 2 * b + 1 := hk; omega)⟩
set_option maxRecDepth 100000 in
set_option maxHeartbeats 1000000 in
theorem inter1_any (L : Nat) (w0 : World) (gs n : Nat) (lab : Nat → Nat) (vs : Nat → Value) (xs : Nat → List Int) (bs : Nat) (bk at_ regs : Int) (i : S51) (A : Option Addr) (c : Nat) (s : List Int) (w : World)
    (hS : SetsAt L w0 w gs n lab vs xs) (hbs : w.heap[bs]? = some (.cells #[.slice (some ⟨gs, 0, none⟩) n n] 157 (0, 0))) (hlb : lab bs % 2 = 0) (hn : (n : Int) = regs) (hL : regs ≤ 64 * (L : Int)) (hL2 : L ≤ 1000000)
    (hi : insWf regs i) (hr : Kd.C kU w A s.length s) (hcp : s.length ≤ c) (hsl : s.length = L) (hsc : Canon s) (hsb : Bnd regs s) :
    Calls Try.prog 68 #[.int .i64 bk, .int .i64 at_, .agg #[.int .u8 i.f0, .int .i64 i.f1, .int .i64 i.f2, .int .i64 i.f3, .int .i64 i.f4, .string i.f5], .slice A s.length c, .pointer (some ⟨bs, 0, none⟩)] w (ActPost L w0 gs n lab vs w) := by
  obtain ⟨_, _, hu⟩ := hi
  have HU := Aside0.mk hu; have HS := Aside0.mk hS; have HBS := Aside0.mk hbs; have HR := Aside0.mk hr; have HSC := Aside0.mk hsc; have HSB := Aside0.mk hsb; have HSL := Aside0.mk hsl
  clear hu hS hbs hr hsc hsb hsl
  have hu2 := Try.underlying51
  have HB1 := Aside0.mk (below_alloc (Below.refl w.heap.size w) (.cells #[.int .u8 i.f0, .int .i64 i.f1, .int .i64 i.f2, .int .i64 i.f3, .int .i64 i.f4, .string i.f5] 51))
  go_enter Try.func68, Try.ntmps68
  go_wp2_with fail
  refine (defines_any i _).mono ?_
  rintro e w2 ⟨rfl, hb2⟩
  have HB2 := Aside0.mk (below_step HB1.out hb2); clear hb2
  cases hd : (shp i.f0).d with
  | false =>
    go_wp2_with fail
    refine bodyPost_ret (results_none rfl _ _ _) rfl ?_
    exact ⟨rfl, xs, HS.out.after HB2.out, Kept.of_below HB2.out _⟩
  | true =>
    have hdr := HU.out i.f1 (List.mem_append.2 (.inr (by simp [defL, hd])))
    have HD := Aside0.mk hd; clear hd
    obtain ⟨d, hdd⟩ : ∃ d, i.f1 = d := ⟨_, rfl⟩
    rw [hdd] at hdr
    obtain ⟨d0, d1⟩ := hdr
    have hlf := list_f HSC.out (by rw [HSL.out]; exact hL2)
    have HLF := Aside0.mk (liveness_set_list.calls _ A c s _ w2 (Kd.C_below HR.out HB2.out) hcp hlf)
    clear hlf
    go_wp2_with fail
    with_reducible refine HLF.out.mono ?_
    rintro e w3 ⟨v3, rfl, hR3, hb3⟩
    obtain ⟨ls, hls⟩ : ∃ ls, listTo s (64 * s.length) = ls := ⟨_, rfl⟩
    rw [hls] at hR3
    have HLM : Aside0 (∀ r ∈ ls, 0 ≤ r ∧ r < n) := ⟨fun r hr => by
      rw [← hls] at hr
      have h := listTo_mem hr
      have := HSB.out r h.1 h.2.2
      omega⟩
    have hlsn : ls.length ≤ 64000000 := by
      rw [← hls]
      exact Nat.le_trans (listTo_len _ _) (by have := HSL.out; omega)
    clear hls
    obtain ⟨A3, c3, hv3⟩ := Kd.R_slice hR3
    subst hv3
    have HB3 := Aside0.mk (below_step HB2.out hb3)
    have HS3 := Aside0.mk ((HS.out.relab (lab' := labN lab w.heap.size 2) (fun k hk _ => labN_lt hk)).after HB3.out)
    have HR3 := Aside0.mk (Kd.R_mono (ok' := fun k => labN lab w.heap.size 2 k = 2) (Kd.R_bound hR3) (fun k hk => labN_ge (Nat.le_trans HB2.out.size hk.2.1)))
    have hlb2 : labN lab w.heap.size 2 bs % 2 = 0 := by rw [labN_lt (blk_lt HBS.out)]; exact hlb
    have HBS3 := Aside0.mk (blk_below HBS.out HB3.out)
    clear hR3 hb3
    go_wp2_with fail
    go_loopw [23] (fun i wr => ∃ k : Int, i = .int .i64 k ∧ 0 ≤ k ∧ k ≤ ls.length ∧ Aside0 (∃ xs, SetsAt L w0 wr gs n (labN lab w.heap.size 2) vs xs ∧ Kept w3 wr (fun k => labN lab w.heap.size 2 k % 2 = 1))) (fun i wr => ls.length - (intOf i).toNat)
    case atStart => exact ⟨0, rfl, Int.le_refl _, by omega, ⟨xs, HS3.out, Kept.refl _ _⟩⟩
    case round =>
      obtain ⟨k, rfl, hk0, hk, ⟨xs1, hS1, hK1⟩⟩ := hrel
      have HS1 := Aside0.mk hS1; have HK1 := Aside0.mk hK1; clear hS1 hK1
      by_cases hlt : k < ls.length
      · have p1 := eq_true hk0
        have q1 := eq_true hlt
        have hC : Kd.C kI wr A3 ls.length ls := Kd.C_kept_own HR3.out (fun k hk h2 => by have h3 : labN lab w.heap.size 2 k = 2 := hk; have h4 : labN lab w.heap.size 2 k % 2 = 1 := h2; omega) wr HK1.out
        obtain ⟨ad, hA, e0⟩ := Kd.at_int hC k hk0 hlt
        cases hA
        have hrm := HLM.out (rd ls k) (mem_rd hk0 hlt)
        obtain ⟨r, hr⟩ : ∃ r, rd ls k = r := ⟨_, rfl⟩
        rw [hr] at e0 hrm
        obtain ⟨r0, r1⟩ := hrm
        clear hC hr
        have hb1 := blk_kept HBS3.out HK1.out (by omega)
        have b0 := blk1 hb1
        have pr := eq_true r0
        have qr := eq_true r1
        have d1' : d < n := by omega
        have pd := eq_true d0
        have qd := eq_true d1'
        have cr := HS1.out.rs.cell (i := r.toNat) (by omega)
        by_cases hrd : r = d
        · have hrb : (r == d) = true := beq_iff_eq.2 hrd
          have hrc : (r != d) = false := by simp [bne, hrb]
          clear hrd
          go_wp2
          go_roundw
          case rel => exact ⟨k + 1, rfl, by omega, by omega, ⟨xs1, HS1.out, HK1.out⟩⟩
          case measure => simp [intOf]; omega
        · have hrb : (r == d) = false := beq_eq_false_iff_ne.2 hrd
          have hrc : (r != d) = true := by simp [bne, hrb]
          clear hrd
          go_wp2_with fail
          refine (add_row HS1.out (b := r.toNat) (by omega) d0 (by omega) hL2).mono ?_
          rintro e w5 ⟨rfl, hS5, hK5⟩
          have HS5 := Aside0.mk hS5; have HK5 := Aside0.mk (HK1.out.then_ hK5 (fun _ h => .inl h))
          clear hS5 hK5 e0 b0 cr hb1
          have hb5 := blk_kept HBS3.out HK5.out (by omega)
          have b0 := blk1 hb5
          have cd := HS5.out.rs.cell (i := d.toNat) (by omega)
          go_wp2_with fail
          refine (add_row HS5.out (b := d.toNat) (by omega) r0 (by omega) hL2).mono ?_
          rintro e w6 ⟨rfl, hS6, hK6⟩
          have HS6 := Aside0.mk hS6; have HK6 := Aside0.mk (HK5.out.then_ hK6 (fun _ h => .inl h))
          clear hS6 hK6 b0 cd hb5
          go_wp2
          go_roundw
          case rel => exact ⟨k + 1, rfl, by omega, by omega, ⟨_, HS6.out, HK6.out⟩⟩
          case measure => simp [intOf]; omega
      · go_wp2
        go_end0
        refine ⟨rfl, xs1, HS1.out.relab (fun k hk h => ?_), ((Kept.of_below HB3.out _).then_ HK1.out (fun _ h => .inl h)).mono (fun k hk => ?_)⟩
        · by_cases e : k < w.heap.size
          · exact (labN_lt e).symm
          · rw [labN_ge (by omega)] at h; omega
        · by_cases e : k < w.heap.size
          · have h2 : labN lab w.heap.size 2 k % 2 = 1 := hk
            rw [labN_lt e] at h2; exact h2
          · have h2 : labN lab w.heap.size 2 k % 2 = 1 := hk
            rw [labN_ge (by omega)] at h2; omega
/-- what the rounds over a block's instructions keep in visit -/
structure VisI (L : Nat) (w0 W9 : World) (gs n : Nat) (lab : Nat → Nat) (vs : Nat → Value) (vl : Value) (s0 : List Int) (regs : Int) (pre : List { x : Int × S51 // insWf regs x.2 }) (W : World) : Prop where
  st : ∃ xs, SetsAt L w0 W gs n lab vs xs
  keep : ∀ k, k < W9.heap.size → lab k % 2 = 0 → some k ≠ vl.ownBlock → W.heap[k]? = W9.heap[k]?
  live : kU.R 191 W w0.heap.size (fun k => some k = vl.ownBlock) vl (backL (pre.map (·.1.2)) s0)
  big : W9.heap.size ≤ W.heap.size
section
variable {L : Nat} {w0 W9 W W1 W2 : World} {gs n bx : Nat} {lab : Nat → Nat} {vs : Nat → Value} {vl : Value} {s0 : List Int} {regs : Int} {pre : List { x : Int × S51 // insWf regs x.2 }}
theorem VisI.own (hb : w0.heap.size ≤ W9.heap.size) : OwnFrom W9.heap.size (VisI L w0 W9 gs n lab vs vl s0 regs) := fun pre W W' row h hg hr => by
  obtain ⟨⟨xs, h1⟩, h2, h3, h4⟩ := h
  have hcells : ∀ (k : Nat) (cells : Array Value) (t : TypeId), W.heap[k]? = some (Obj.cells cells t (0, 0)) → W'.heap[k]? = W.heap[k]? := fun k cells t hc => hg.block k (blk_lt hc) (fun e => by
    obtain ⟨_, o, ho, hc2⟩ := hr k e.symm
    rw [hc] at ho
    injection ho with ho
    subst ho
    cases hc2)
  have hbw : Below w0.heap.size w0 W' := h1.below.grown hg (by omega) (fun k e => by have := (hr k e).1; omega)
  exact ⟨⟨xs, h1.step hbw (fun k cells t hc _ => hcells k cells t hc)⟩, fun k hk he ho => (hg.block k (by omega) (fun e => by have := (hr k e.symm).1; omega)).trans (h2 k hk he ho), R_keep h3 (fun k cells t hc _ => hcells k cells t hc), Nat.le_trans h4 hg.size⟩
theorem VisI.below (h : VisI L w0 W9 gs n lab vs vl s0 regs pre W) (hb : Below W.heap.size W W1) : VisI L w0 W9 gs n lab vs vl s0 regs pre W1 := by
  obtain ⟨⟨xs, h1⟩, h2, h3, h4⟩ := h
  exact ⟨⟨xs, h1.after hb⟩, fun k hk he ho => (hb.block k (by omega)).trans (h2 k hk he ho), Kd.R_below h3 hb, Nat.le_trans h4 hb.size⟩
theorem VisI.kbAlloc (h : VisI L w0 W9 gs n lab vs vl s0 regs pre W) (hw : w0.heap.size ≤ W9.heap.size) (hx : bx < W9.heap.size) (o : Obj) : KB w0.heap.size bx W (W.alloc o) :=
  ⟨(Below.refl _ _).alloc (Nat.le_trans hw h.big) o, (below_alloc (Below.refl _ _) o).block bx (by have := h.big; omega)⟩
/-- one round: the function has been called, then before -/
theorem VisI.round (h : VisI L w0 W9 gs n lab vs vl s0 regs pre W) {xs : Nat → List Int} (hS1 : SetsAt L w0 W1 gs n lab vs xs) (hK1 : Kept W W1 (fun k => lab k % 2 = 1)) (hq : ∀ q, vl.ownBlock = some q → lab q % 2 = 0 ∧ lab q ≠ 0) (hB : Below w0.heap.size w0 W2) (hK2 : Kept W1 W2 (fun k => some k = vl.ownBlock))
    (x : { x : Int × S51 // insWf regs x.2 }) {P : Nat → Prop} (hR : kU.R 191 W2 w0.heap.size P vl (beforeL x.1.2 (backL (pre.map (·.1.2)) s0))) : VisI L w0 W9 gs n lab vs vl s0 regs (pre ++ [x]) W2 := by
  refine ⟨⟨xs, hS1.step hB (fun k cells t hc ho => hK2.2 k (blk_lt hc) (fun e => by have := hq k e.symm; omega))⟩, fun k hk he ho => ?_, ?_, Nat.le_trans h.big (Nat.le_trans hK1.1 hK2.1)⟩
  · have hb := h.big
    have h1 := hK1.1
    rw [hK2.2 k (by omega) ho, hK1.2 k (by omega) (by omega)]
    exact h.keep k hk he ho
  · have e : backL ((pre ++ [x]).map (·.1.2)) s0 = beforeL x.1.2 (backL (pre.map (·.1.2)) s0) := by simp [backL]
    rw [e]
    exact Kd.R_tight rfl hR
theorem VisI.live1 (h : VisI L w0 W9 gs n lab vs vl s0 regs pre W) (hK1 : Kept W W1 (fun k => lab k % 2 = 1)) (hq : ∀ q, vl.ownBlock = some q → lab q % 2 = 0 ∧ lab q ≠ 0) : kU.R 191 W1 w0.heap.size (fun k => some k = vl.ownBlock) vl (backL (pre.map (·.1.2)) s0) :=
  R_keep h.live (fun k _ _ hc ho => hK1.2 k (blk_lt hc) (fun e => by have := (hq k ho.symm).1; omega))
theorem VisI.keeps (h : VisI L w0 W9 gs n lab vs vl s0 regs pre W) (hK1 : Kept W W1 (fun k => lab k % 2 = 1)) (hK2 : Kept W1 W2 (fun k => some k = vl.ownBlock)) (hl : ∀ k, W9.heap.size ≤ k → lab k % 2 = 0) : KeepsFrom W9.heap.size W W2 :=
  ⟨Nat.le_trans hK1.1 hK2.1, fun k o hk0 hk ho => by
    have h1 := hK1.1
    have hlt := blk_lt hk
    have hl2 := hl k hk0
    rw [hK2.2 k (by omega) (fun e => by
      obtain ⟨cells, hc⟩ := Kd.R_typed h.live k e.symm
      rw [hk] at hc
      injection hc with hc
      subst hc
      cases ho), hK1.2 k hlt (by omega)]
    exact hk⟩
theorem VisI.kbRound (h : VisI L w0 W9 gs n lab vs vl s0 regs pre W) (hx : bx < W9.heap.size) (hB : Below w0.heap.size w0 W2) (hK1 : Kept W W1 (fun k => lab k % 2 = 1)) (hK2 : Kept W1 W2 (fun k => some k = vl.ownBlock)) (hq : ∀ q, vl.ownBlock = some q → q ≠ bx) (hlx : lab bx % 2 = 0) : KB w0.heap.size bx W W2 := by
  obtain ⟨xs, hst⟩ := h.st
  have h1 := hK1.1
  have h2 := h.big
  exact ⟨⟨hB.os.trans hst.below.os.symm, hB.tape.trans hst.below.tape.symm, hB.output.trans hst.below.output.symm, Nat.le_trans hK1.1 hK2.1, fun i hi => (hB.block i hi).trans (hst.below.block i hi).symm⟩,
    (hK2.2 bx (by omega) (fun e => hq bx e.symm rfl)).trans (hK1.2 bx (by omega) (by omega))⟩
end
end Go.Proofs.Ytadaopfcgpfiiaa
