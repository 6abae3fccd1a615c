/- Lemmas, part 20: what the theorem of the last text needs, joined by a program out of the seat's texts D1, D2, D3, E0, E1, E2, E3, E4, E5, H0, H1, H2, H3, F0, F1, F2, F3, F4. -/
import Derived.Test.YtadaopfcgpfiiaaCLayoutX18
import Derived.Test.YtadaopfcgpfiiaaCLayoutX14
import Derived.Test.YtadaopfcgpfiiaaCLayoutX19
import Derived.RangeFuncNested
import Derived.RangeFuncLeaves
import Derived.WalkKit
import Derived.OwnWalkIn
import Derived.TacticsInMore
import Derived.LoopNIn
import Derived.LoopIn
import Derived.MapKept
import Derived.Laws.IdiomRangeMap
import Derived.StillTailTactics
import Derived.Maps.OwnSet
namespace Go.Proofs.Ytadaopfcgpfiiaa
open Go.RowKit Go.Proofs.YtadaopfcgpfiiaaW.PrintWords Go.Proofs.YtadaopfcgpfiiaaW.PrintLast Go.Proofs.YtadaopfcgpfiiaaW.PrintMore PCg
set_option linter.unusedVariables false
set_option linter.unusedSimpArgs false
def memA (acc : List S44) (nm : ByteArray) (v : Int) : Bool := acc.any (fun a => nm.toList == a.f0.toList && (v == a.f1))
theorem index_go (xs : List S44) (nm : ByteArray) (v : Int) (hl : xs.length ≤ 1000000) : ∀ n j fuel : Nat, j + n = xs.length → n < fuel →
    ∃ r, api_Array_64.l0 fuel xs (xs.length : Int) (j : Int) nm v = some r ∧ decide (r ≥ 0) = memA (xs.drop j) nm v := by
  intro n
  induction n with
  | zero =>
    intro j fuel hj hf
    obtain ⟨f, rfl⟩ : ∃ f, fuel = f + 1 := ⟨fuel - 1, by omega⟩
    refine ⟨-1, ?_, ?_⟩
    · unfold api_Array_64.l0; rw [if_neg (by omega)]
    · rw [List.drop_eq_nil_of_le (by omega)]; rfl
  | succ n ih =>
    intro j fuel hj hf
    obtain ⟨f, rfl⟩ : ∃ f, fuel = f + 1 := ⟨fuel - 1, by omega⟩
    have hd : xs.drop j = rd_T44 xs (j : Int) :: xs.drop (j + 1) := by
      rw [List.drop_eq_getElem_cons (by omega)]
      congr 1
      simp [rd_T44, show j < xs.length by omega]
    unfold api_Array_64.l0
    rw [if_pos (by omega), if_pos (by omega), if_pos (by omega)]
    by_cases he : (nm.toList == (rd_T44 xs (j : Int)).f0.toList && v == (rd_T44 xs (j : Int)).f1) = true
    · refine ⟨j, by rw [if_pos he], ?_⟩
      rw [hd, memA, List.any_cons, he, Bool.true_or]
      exact decide_eq_true (by omega)
    · obtain ⟨r, h1, h2⟩ := ih (j + 1) f (by omega) (by omega)
      refine ⟨r, ?_, ?_⟩
      · rw [if_neg he, w64 (n := (j : Int) + 1) (by omega)]
        exact h1
      · rw [hd, memA, List.any_cons, Bool.eq_false_iff.2 he, Bool.false_or]
        exact h2
theorem contains_f (xs : List S44) (nm : ByteArray) (v : Int) (hl : xs.length ≤ 1000000) (K : Nat) (hK : xs.length < K) : api_Array_45.f K xs nm v = some (memA xs nm v) := by
  obtain ⟨r, h1, h2⟩ := index_go xs nm v hl xs.length 0 K (by omega) hK
  unfold api_Array_45.f api_Array_64.f
  have h1' : api_Array_64.l0 K xs (xs.length : Int) 0 nm v = some r := h1
  rw [h1', Option.bind_some, h2]
  rfl
def isShr (op : Int) : Bool := op == 6 || op == 7 || op == 11 || op == 12
def mentI (acc : List S44) (i : S51) : List S44 := if isShr i.f0 = true then (if memA acc i.f5 1 = true then acc else acc ++ [⟨i.f5, 1⟩]) else acc
def mentB (acc : List S44) (b : S49) : List S44 := b.f0.foldl mentI acc
def mentL (blks : List S49) : List S44 := blks.foldl mentB []
theorem mentI_len (acc : List S44) (i : S51) : (mentI acc i).length ≤ acc.length + 1 := by
  unfold mentI; split
  · split
    · omega
    · simp
  · omega
theorem mentB_len (l : List S51) : ∀ acc : List S44, (l.foldl mentI acc).length ≤ acc.length + l.length := by
  induction l with
  | nil => intro acc; exact Nat.le_refl _
  | cons i l ih => intro acc; have h1 := ih (mentI acc i); have h2 := mentI_len acc i; simp only [List.foldl_cons, List.length_cons]; omega
theorem ment_j2 (f : Nat) (acc : List S44) (blks : List S49) (nb jb : Int) (ins : List S51) (ni j : Int) (c : Bool) (i : S51) (hc : c = isShr i.f0) (ha : acc.length < f) (hb : acc.length ≤ 1000000) (hj : 0 ≤ j) (hj1 : j ≤ 1000000) :
    codegen_mentioned.j2 (f + 1) acc blks nb jb ins ni j c i.f0 i.f1 i.f2 i.f3 i.f4 i.f5 = codegen_mentioned.l1 f (mentI acc i) blks nb jb ins ni (j + 1) := by
  unfold codegen_mentioned.j2
  rw [contains_f acc i.f5 1 hb f ha, w64 (n := j + 1) (by omega), Option.bind_some, hc, mentI]
  cases isShr i.f0 with
  | false => simp
  | true =>
    simp only [if_true]
    cases memA acc i.f5 1 with
    | false => simp only [Bool.false_eq_true, if_false]; rw [if_pos (by omega)]
    | true => simp
theorem ment_l1 (blks : List S49) (nb jb : Int) (ins : List S51) (hj0 : 0 ≤ jb) (hj1 : jb ≤ 1000000) (hl : ins.length ≤ 100000) : ∀ n j f acc, j + n = ins.length → acc.length + n ≤ 200000 → 200001 ≤ f →
    codegen_mentioned.l1 (f + 2 * n + 1) acc blks nb jb ins (ins.length : Int) (j : Int) = codegen_mentioned.l0 f ((ins.drop j).foldl mentI acc) blks nb (jb + 1) := by
  intro n
  induction n with
  | zero =>
    intro j f acc hj ha hf
    unfold codegen_mentioned.l1
    rw [if_neg (by omega), List.drop_eq_nil_of_le (by omega), w64 (n := jb + 1) (by omega)]
    rfl
  | succ n ih =>
    intro j f acc hj ha hf
    have hd : ins.drop j = rd_T51 ins (j : Int) :: ins.drop (j + 1) := by
      rw [List.drop_eq_getElem_cons (by omega)]
      congr 1
      simp [rd_T51, show j < ins.length by omega]
    have h1 := mentI_len acc (rd_T51 ins (j : Int))
    have h := ih (j + 1) f (mentI acc (rd_T51 ins (j : Int))) (by omega) (by omega) hf
    rw [hd, List.foldl_cons, ← h]
    rw [show f + 2 * (n + 1) + 1 = (f + 2 * n + 1 + 1) + 1 from by omega]
    conv => lhs; unfold codegen_mentioned.l1
    rw [if_pos (by omega), if_pos (by omega), if_pos (by omega)]
    generalize rd_T51 ins (j : Int) = i at *
    have key : ∀ c, c = isShr i.f0 → codegen_mentioned.j2 (f + 2 * n + 1 + 1) acc blks nb jb ins (ins.length : Int) (j : Int) c i.f0 i.f1 i.f2 i.f3 i.f4 i.f5 = codegen_mentioned.l1 (f + 2 * n + 1) (mentI acc i) blks nb jb ins (ins.length : Int) (((j + 1 : Nat)) : Int) := fun c hc =>
      ment_j2 _ acc blks nb jb ins _ _ c i hc (by omega) (by omega) (by omega) (by omega)
    split
    · rename_i h6; exact key _ (by rw [h6]; rfl)
    · split
      · rename_i h7; exact key _ (by rw [h7]; rfl)
      · split
        · rename_i h11; exact key _ (by rw [h11]; rfl)
        · rename_i h6 h7 h11; exact key _ (by simp [isShr, h6, h7, h11])
theorem ment_l0 (blks : List S49) (hl : blks.length ≤ 100000) (hb : ∀ b ∈ blks, b.f0.length ≤ 100000) : ∀ n j f acc, j + n = blks.length → acc.length + ((blks.drop j).map (fun b => b.f0.length)).sum ≤ 200000 → 200001 ≤ f →
    codegen_mentioned.l0 (f + ((blks.drop j).map (fun b => 2 * b.f0.length + 2)).sum + 1) acc blks (blks.length : Int) (j : Int) = some ((blks.drop j).foldl mentB acc) := by
  intro n
  induction n with
  | zero =>
    intro j f acc hj ha hf
    unfold codegen_mentioned.l0
    rw [if_neg (by omega), List.drop_eq_nil_of_le (by omega)]
    rfl
  | succ n ih =>
    intro j f acc hj ha hf
    have hd : blks.drop j = rd_T49 blks (j : Int) :: blks.drop (j + 1) := by
      rw [List.drop_eq_getElem_cons (by omega)]
      congr 1
      simp [rd_T49, show j < blks.length by omega]
    have hm : (rd_T49 blks (j : Int)).f0.length ≤ 100000 := hb _ (by
      simp only [rd_T49, List.getD_eq_getElem?_getD]
      rw [List.getElem?_eq_getElem (by omega)]
      simp)
    rw [hd] at ha ⊢
    simp only [List.map_cons, List.sum_cons, List.foldl_cons] at ha ⊢
    conv => lhs; unfold codegen_mentioned.l0
    rw [if_pos (by omega), if_pos (by omega), if_pos (by omega)]
    generalize rd_T49 blks (j : Int) = b at *
    have h1 := mentB_len b.f0 acc
    have h := ih (j + 1) f (mentB acc b) (by omega) (by unfold mentB; omega) hf
    have h2 := ment_l1 blks (blks.length : Int) (j : Int) b.f0 (by omega) (by omega) hm b.f0.length 0 (f + ((blks.drop (j + 1)).map (fun b => 2 * b.f0.length + 2)).sum + 1) acc (by omega) (by omega) (by omega)
    rw [show f + (2 * b.f0.length + 2 + ((blks.drop (j + 1)).map (fun b => 2 * b.f0.length + 2)).sum) = f + ((blks.drop (j + 1)).map (fun b => 2 * b.f0.length + 2)).sum + 1 + 2 * b.f0.length + 1 from by omega]
    refine h2.trans ?_
    exact h
end Go.Proofs.Ytadaopfcgpfiiaa
namespace Go.Proofs.Ytadaopfcgpfiiaa
open Go.RowKit Go.Proofs.YtadaopfcgpfiiaaW.PrintWords Go.Proofs.YtadaopfcgpfiiaaW.PrintLast Go.Proofs.YtadaopfcgpfiiaaW.PrintMore PCg
set_option linter.unusedVariables false
set_option linter.unusedSimpArgs false
theorem mentioned_f (nm : ByteArray) (regs : Int) (arrs : List S44) (blks : List S49) (hl : blks.length ≤ 100000) (hb : ∀ b ∈ blks, b.f0.length ≤ 100000) (hs : (blks.map (fun b => b.f0.length)).sum ≤ 200000) :
    codegen_mentioned.f (200001 + (blks.map (fun b => 2 * b.f0.length + 2)).sum + 1) nm regs arrs blks = some (mentL blks) := by
  have h := ment_l0 blks hl hb blks.length 0 200001 [] (by omega) (by simpa using hs) (by omega)
  rw [List.drop_zero] at h
  exact h
/-- what an instruction of a valid function gives -/
theorem insPre_of_ok {regs : Int} {arrs shared : List S44} {i : S51} (hr : 0 ≤ regs) (h : insOk regs arrs shared i = true) : insPre regs.toNat i := by
  have hn : ((regs.toNat : Nat) : Int) = regs := by omega
  unfold insOk xOk at h
  by_cases h16 : i.f0 = 1 ∨ i.f0 = 2 ∨ i.f0 = 3 ∨ i.f0 = 4 ∨ i.f0 = 5 ∨ i.f0 = 6 ∨ i.f0 = 7 ∨ i.f0 = 8 ∨ i.f0 = 9 ∨ i.f0 = 10 ∨ i.f0 = 11 ∨ i.f0 = 12 ∨ i.f0 = 13 ∨ i.f0 = 14 ∨ i.f0 = 15 ∨ i.f0 = 16
  · rcases h16 with e | e | e | e | e | e | e | e | e | e | e | e | e | e | e | e <;> rw [e] at h <;> simp [shp, regOk] at h <;> simp [insPre, defPre, regIn, e, hn] <;> omega
  · simp only [not_or] at h16
    simp [shp, h16] at h
/-- code is only added -/
def Ext (st st' : GSt) : Prop := ∃ l, st'.code = st.code ++ l
theorem Ext.refl (st : GSt) : Ext st st := ⟨[], by simp⟩
theorem Ext.trans {a b c : GSt} (h : Ext a b) (k : Ext b c) : Ext a c := by
  obtain ⟨l, h⟩ := h; obtain ⟨m, k⟩ := k
  exact ⟨l ++ m, by rw [k, h, List.append_assoc]⟩
theorem Ext.len {a b : GSt} (h : Ext a b) : a.code.length ≤ b.code.length := by
  obtain ⟨l, h⟩ := h
  rw [h, List.length_append]; omega
theorem ext_emit (st : GSt) (l : List S53) : Ext st (st.emit l) := ⟨l, rfl⟩
theorem ext_refer (st : GSt) (x : S53) (nm : ByteArray) : Ext st (st.refer x nm) := ⟨[x], rfl⟩
theorem ext_ite {c : Prop} [Decidable c] {st a b : GSt} (ha : Ext st a) (hb : Ext st b) : Ext st (if c then a else b) := by split; exact ha; exact hb
theorem genDef1_ext (sp : Int) (pl : List (Int × Int)) (m : ByteArray → Int) (st : GSt) (i : S51) : Ext st (genDef1 sp pl m st i) := by
  unfold genDef1
  repeat' refine ext_ite ?_ ?_
  all_goals first | exact ext_emit _ _ | exact (ext_emit _ _).trans (ext_refer _ _ _) | exact Ext.refl _
theorem genIns_ext (sp : Int) (pl : List (Int × Int)) (m : ByteArray → Int) (st : GSt) (i : S51) : Ext st (genIns sp pl m st i) := by
  unfold genIns
  repeat' refine ext_ite ?_ ?_
  all_goals first | exact ext_emit _ _ | exact (ext_emit _ _).trans (ext_refer _ _ _) | exact ext_refer _ _ _ | exact (genDef1_ext sp pl m st i).trans (ext_emit _ _)
theorem genCode_ext (sp : Int) (pl : List (Int × Int)) (m : ByteArray → Int) (l : List S51) : ∀ st : GSt, Ext st (genCode sp pl m st l) := by
  induction l with
  | nil => intro st; exact Ext.refl _
  | cons i l ih => intro st; exact (genIns_ext sp pl m st i).trans (ih _)
def PInv (nb : Int) (st : GSt) : Prop := (∀ p ∈ st.patches, (0 ≤ p.1 ∧ p.1 < st.code.length) ∧ 0 ≤ p.2 ∧ p.2 < nb) ∧ ∀ x ∈ st.starts, 0 ≤ x ∧ x ≤ st.code.length
theorem PInv.grow {nb : Int} {st st' : GSt} (h : PInv nb st) (hp : st'.patches = st.patches) (hs : st'.starts = st.starts) (he : Ext st st') : PInv nb st' := by
  have hl := he.len
  refine ⟨fun p hp' => ?_, fun x hx => ?_⟩
  · rw [hp] at hp'
    obtain ⟨⟨a, b⟩, c⟩ := h.1 p hp'
    exact ⟨⟨a, by omega⟩, c⟩
  · rw [hs] at hx
    obtain ⟨a, b⟩ := h.2 x hx
    exact ⟨a, by omega⟩
theorem PInv.emit {nb : Int} {st : GSt} (h : PInv nb st) (l : List S53) : PInv nb (st.emit l) := h.grow rfl rfl (ext_emit _ _)
theorem PInv.leap {nb : Int} {st : GSt} (h : PInv nb st) (x : S53) (b : Int) (h0 : 0 ≤ b) (h1 : b < nb) : PInv nb (st.leap x b) := by
  refine ⟨fun p hp => ?_, fun y hy => ?_⟩
  · simp only [GSt.leap, List.mem_append, List.mem_singleton] at hp
    simp only [GSt.leap, List.length_append, List.length_cons, List.length_nil]
    rcases hp with hp | rfl
    · obtain ⟨⟨a, b⟩, c⟩ := h.1 p hp
      exact ⟨⟨a, by omega⟩, c⟩
    · exact ⟨⟨by dsimp only; omega, by dsimp only; omega⟩, h0, h1⟩
  · obtain ⟨a, b⟩ := h.2 y hy
    simp only [GSt.leap, List.length_append, List.length_cons, List.length_nil]
    exact ⟨a, by omega⟩
theorem PInv.start {nb : Int} {st : GSt} (h : PInv nb st) : PInv nb st.start := by
  refine ⟨h.1, fun y hy => ?_⟩
  simp only [GSt.start, List.mem_append, List.mem_singleton] at hy
  rcases hy with hy | rfl
  · exact h.2 y hy
  · simp only [GSt.start]; omega
theorem PInv.blk {nb regs : Int} {arrs shared : List S44} {st : GSt} (h : PInv nb st) (sp : Int) (pl : List (Int × Int)) (m : ByteArray → Int) (k : Int) (b : S49) (hb : blkOk regs nb arrs shared b = true) : PInv nb (genBlk sp pl m st k b) := by
  obtain ⟨a1, a2, a3, a4⟩ := genCode_sz sp pl m b.f0 st.start
  have h2 := h.start.grow a4 a3 (genCode_ext sp pl m b.f0 st.start)
  simp only [blkOk, Bool.and_eq_true] at hb
  have he := hb.1
  unfold genBlk
  simp only
  generalize genCode sp pl m st.start b.f0 = st2 at *
  unfold endOk tgtOk at he
  split
  · exact h2.emit _
  · split
    · rename_i g3 g2
      rw [if_neg (by omega), if_pos g2] at he
      simp at he
      split
      · exact (h2.emit _).leap _ _ (by omega) (by omega)
      · exact ((h2.emit _).leap _ _ (by omega) (by omega)).leap _ _ (by omega) (by omega)
    · rename_i g3 g2
      split
      · exact h2
      · have g1 : b.f1 = 1 := by
          by_cases g1 : b.f1 = 1
          · exact g1
          · rw [if_neg g1, if_neg g2] at he
            simp at he
            exact absurd he.1.1.1 g3
        rw [if_pos g1] at he
        simp at he
        exact h2.leap _ _ (by omega) (by omega)
theorem allTo_get {n : Nat} {p : Int → Bool} (h : allTo n p = true) (k : Nat) (hk : k < n) : p k = true := by
  unfold allTo at h
  rw [List.all_eq_true] at h
  exact h k (List.mem_range.2 hk)
theorem irOk_facts {regs : Int} {arrs : List S44} {blks : List S49} {shared : List S44} (h : irOk regs arrs blks shared = true) :
    blks.length ≠ 0 ∧ 0 ≤ regs ∧ regs ≤ 10000 ∧ arrs.length ≤ 4 ∧ (∀ k : Nat, k < arrs.length → arrOkAt arrs shared k = true) ∧ (∀ k : Nat, k < shared.length → shOkAt shared k = true) ∧ ∀ k : Nat, k < blks.length → blkOk regs blks.length arrs shared (rd_T49 blks k) = true := by
  unfold irOk at h
  simp only [Bool.and_eq_true, decide_eq_true_eq] at h
  obtain ⟨⟨⟨⟨⟨⟨h1, h2⟩, h3⟩, h4⟩, h5⟩, h6⟩, h7⟩ := h
  exact ⟨h1, h2, h3, h4, fun k hk => allTo_get h5 k hk, fun k hk => allTo_get h6 k hk, fun k hk => allTo_get h7 k hk⟩
theorem genTo_inv {regs : Int} {arrs : List S44} {blks : List S49} {shared : List S44} (h : irOk regs arrs blks shared = true) (sp : Int) (pl : List (Int × Int)) (m : ByteArray → Int) (st : GSt) (hst : PInv blks.length st) (k : Nat) (hk : k ≤ blks.length) : PInv blks.length (genTo sp pl m blks st k) := by
  induction k with
  | zero => exact hst
  | succ k ih => exact (ih (by omega)).blk sp pl m k _ ((irOk_facts h).2.2.2.2.2.2 k (by omega))
theorem patchOk_task {regs : Int} {arrs : List S44} {blks : List S49} {shared : List S44} (h : irOk regs arrs blks shared = true) (addr : List Int) (size : Int) (places : List (Int × Int)) (slots : Int) (hs0 : 0 ≤ slots) (hs : slots ≤ 10000) (hb : blks.length ≤ 10000) (hsum : sumTo blks blks.length ≤ 50000) :
    patchOk (genTask arrs addr size blks places slots) := by
  have h0 : PInv blks.length (⟨genStores size slots.toNat, [], [], []⟩ : GSt) := ⟨fun p hp => by simp at hp, fun x hx => by simp at hx⟩
  have h1 := genTo_inv h size places (mapTo arrs addr arrs.length) _ h0 blks.length (Nat.le_refl _)
  obtain ⟨z1, z2, z3, z4⟩ := genTo_sz size places (mapTo arrs addr arrs.length) blks ⟨genStores size slots.toNat, [], [], []⟩ blks.length
  have hg : (genStores size slots.toNat).length ≤ 10000 := by simp only [genStores, List.length_map, List.length_range]; omega
  simp only [List.length_nil] at z1 z3
  refine ⟨fun p hp => ?_, fun x hx => ?_⟩
  · obtain ⟨a, b, c⟩ := h1.1 p hp
    refine ⟨a, b, ?_⟩
    have : (genTask arrs addr size blks places slots).starts.length = 0 + blks.length := z3
    omega
  · obtain ⟨a, b⟩ := h1.2 x hx
    exact ⟨a, by omega⟩
end Go.Proofs.Ytadaopfcgpfiiaa
namespace Go.Proofs.Ytadaopfcgpfiiaa
open Go.RowKit Go.Proofs.YtadaopfcgpfiiaaW.PrintWords Go.Proofs.YtadaopfcgpfiiaaW.PrintLast Go.Proofs.YtadaopfcgpfiiaaW.PrintMore PCg
set_option linter.unusedVariables false
set_option linter.unusedSimpArgs false
theorem sumTo_take (blks : List S49) (k : Nat) (hk : k ≤ blks.length) : sumTo blks k = ((blks.take k).map (fun b => b.f0.length)).sum := by
  induction k with
  | zero => rfl
  | succ k ih =>
    rw [sumTo, ih (by omega), List.take_add_one, List.getElem?_eq_getElem (by omega)]
    simp only [Option.toList_some, List.map_append, List.map_cons, List.map_nil, List.sum_append, List.sum_cons, List.sum_nil, rd_T49, List.getD_eq_getElem?_getD]
    rw [show ((k : Int)).toNat = k from by omega, List.getElem?_eq_getElem (by omega)]
    simp
theorem sumTo_all (blks : List S49) : sumTo blks blks.length = (blks.map (fun b => b.f0.length)).sum := by
  rw [sumTo_take blks _ (Nat.le_refl _), List.take_length]
theorem len_le_sum {blks : List S49} {b : S49} (h : b ∈ blks) : b.f0.length ≤ (blks.map (fun b => b.f0.length)).sum :=
by
  induction blks with
  | nil => simp at h
  | cons c l ih =>
    rw [List.map_cons, List.sum_cons]
    rcases List.mem_cons.1 h with rfl | h
    · omega
    · have := ih h; omega
theorem mentL_len (blks : List S49) : ∀ acc, (blks.foldl mentB acc).length ≤ acc.length + (blks.map (fun b => b.f0.length)).sum := by
  induction blks with
  | nil => intro acc; simp
  | cons b l ih =>
    intro acc
    have h1 := ih (mentB acc b)
    have h2 := mentB_len b.f0 acc
    simp only [List.foldl_cons, List.map_cons, List.sum_cons, mentB] at *
    omega
theorem layA_bound (arrs : List S44) (M : Int) (hM0 : 0 ≤ M) (hM : M ≤ 1000000000000) (h : ∀ k : Nat, k < arrs.length → (rd_T44 arrs k).f1 ≤ M) (k : Nat) (hk : k ≤ arrs.length) (hk2 : k ≤ 1000) : 0 ≤ layA arrs k ∧ layA arrs k ≤ k * M := by
  induction k with
  | zero => simp [layA]
  | succ k ih =>
    obtain ⟨h1, h2⟩ := ih (by omega) (by omega)
    have h3 := h k (by omega)
    have hm : 0 ≤ mx (rd_T44 arrs (k : Int)).f1 0 ∧ mx (rd_T44 arrs (k : Int)).f1 0 ≤ M := by unfold mx; split <;> omega
    have h5 : (k : Int) * M ≤ 1000 * M := Int.mul_le_mul_of_nonneg_right (by omega) hM0
    have h4 : ((k + 1 : Nat) : Int) * M = (k : Int) * M + M := by rw [Int.natCast_add, Int.add_mul]; simp
    rw [layA, w64 (by omega)]
    omega
theorem layAll_wf (arrs : List S44) (k : Nat) : ∀ x ∈ layAll arrs k, (Lit.int .i64 x).wf = true := by
  intro x hx
  simp only [layAll, List.mem_map] at hx
  obtain ⟨j, _, rfl⟩ := hx
  cases j with
  | zero => rfl
  | succ j => exact wrap64_wf _
theorem task_alloc (P : List (Int × Int) → Int → Prop) (nm : ByteArray) (regs : Int) (A : Option Addr) (c : Nat) (arrs : List S44) (A3 : Option Addr) (c3 : Nat) (blks : List S49) (w : World)
    (hr : Kd.C k44 w A arrs.length arrs) (hcp : arrs.length ≤ c) (hr3 : Kd.C k49 w A3 blks.length blks) (hcp3 : blks.length ≤ c3)
    (hal : arrs.length ≤ 1000000) (hm3 : blks.length ≤ 10000) (hsum : (blks.map (fun b => b.f0.length)).sum ≤ 50000) (hns : ∀ a ∈ arrs, a.f0.size ≤ maxLen) (hnb : ∀ b ∈ blks, ∀ i ∈ b.f0, i.f5.size ≤ maxLen)
    (hA : irOk regs arrs blks (mentL blks) = true → ∀ W, Below w.heap.size w W → Calls Try.prog 28 #[.agg #[.string nm, .int .i64 regs, .slice A arrs.length c, .slice A3 blks.length c3]] W
      fun e W' => ∃ places slots Ap cp, P places slots ∧ e = .returned (.tuple #[.agg #[.slice Ap places.length cp, .int .i64 slots], .int .i64 0]) ∧ Kd.C kTwo W' Ap places.length places ∧ AllocOk regs places slots ∧ Below W.heap.size W W') :
    Calls Try.prog 12 #[.agg #[.string nm, .int .i64 regs, .slice A arrs.length c, .slice A3 blks.length c3]] w
      fun e w' => (irOk regs arrs blks (mentL blks) = false ∧ e = .returned (.tuple #[zeroObj, .int .i64 3]) ∧ Below w.heap.size w w') ∨
        (irOk regs arrs blks (mentL blks) = true ∧ ∃ places slots, P places slots ∧ AllocOk regs places slots ∧ TaskOut nm arrs (layAll arrs arrs.length) (layA arrs arrs.length) blks places slots e w w') := by
  have hml : (mentL blks).length ≤ 50000 := by
    have := mentL_len blks []
    simp only [List.length_nil] at this
    unfold mentL
    omega
  refine task_any P (200001 + (blks.map (fun b => 2 * b.f0.length + 2)).sum + 1 + 1000000) nm regs A c arrs A3 c3 blks (mentL blks) (layAll arrs arrs.length) (layA arrs arrs.length) w hr hcp hr3 hcp3 hm3 (fun b hb => by have := len_le_sum hb; omega)
    ?_ (by omega) (layout_f arrs hal _ (by omega)) ?_ (layAll_len _ _) (fun h => by have := (irOk_facts h).2.2.2.1; omega) hns (layAll_wf _ _) ?_ (by rw [sumTo_all]; exact hsum) ?_ hA
  · have h := mentioned_f nm regs arrs blks (by omega) (fun b hb => by have := len_le_sum hb; omega) (by omega)
    have hmono : ∀ d, codegen_mentioned.f (200001 + (blks.map (fun b => 2 * b.f0.length + 2)).sum + 1 + d) nm regs arrs blks = some (mentL blks) := by
      intro d
      induction d with
      | zero => exact h
      | succ d ih => exact codegen_mentioned.mono nm regs arrs blks _ _ ih
    exact hmono 1000000
  · intro h
    obtain ⟨_, _, _, h4, h5, _⟩ := irOk_facts h
    have hb := layA_bound arrs 32 (by omega) (by omega) (fun k hk => by
      have := h5 k hk
      simp only [arrOkAt, Bool.and_eq_true, decide_eq_true_eq] at this
      exact this.1.1.2) arrs.length (Nat.le_refl _) (by omega)
    exact ⟨hb.1, by have : ((arrs.length : Nat) : Int) ≤ 4 := by omega
                    have := hb.2; omega⟩
  · intro h b hb
    obtain ⟨_, h2, _, _, _, _, h7⟩ := irOk_facts h
    obtain ⟨k, hk, rfl⟩ := List.getElem_of_mem hb
    have h8 := h7 k hk
    have e : rd_T49 blks (k : Int) = blks[k] := by simp [rd_T49, hk]
    rw [e] at h8
    simp only [blkOk, Bool.and_eq_true, List.all_eq_true] at h8
    refine ⟨fun i hi => ⟨insPre_of_ok h2 (h8.2 i hi), hnb _ hb i hi⟩, fun h9 => ?_⟩
    have h10 := h8.1
    unfold endOk at h10
    rw [if_neg (by omega), if_pos h9] at h10
    simp at h10
    exact ⟨h10.1.2, by omega⟩
  · intro h places slots hAO
    exact patchOk_task h _ _ places slots hAO.2.1 hAO.2.2.1 hm3 (by rw [sumTo_all]; exact hsum)
end Go.Proofs.Ytadaopfcgpfiiaa
namespace Go.Proofs.Ytadaopfcgpfiiaa
open Go.RowKit Go.Proofs.YtadaopfcgpfiiaaW.PrintWords Go.Proofs.YtadaopfcgpfiiaaW.PrintLast Go.Proofs.YtadaopfcgpfiiaaW.PrintMore PCg
set_option linter.unusedVariables false
set_option linter.unusedSimpArgs false
/-- the bits of a word -/
def bw (x : Int) : BitVec 64 := BitVec.ofInt 64 x
theorem u64_wrap (n : Nat) (h : n < 18446744073709551616) : IntKind.u64.wrap (n : Int) = n := by rw [IntKind.wrap_u64]; omega
theorem bw_toNat (v : BitVec 64) : bw (v.toNat : Int) = v := by
  apply BitVec.eq_of_toNat_eq
  simp [bw]
theorem bits_or64 (x y : Int) : Go.bits .or .u64 x y = ((bw x ||| bw y).toNat : Int) := by
  show IntKind.u64.wrap ((bw x ||| bw y).toNat : Int) = _
  exact u64_wrap _ (bw x ||| bw y).isLt
theorem bits_andNot64 (x y : Int) : Go.bits .andNot .u64 x y = ((bw x &&& ~~~ bw y).toNat : Int) := by
  show IntKind.u64.wrap ((bw x &&& ~~~ bw y).toNat : Int) = _
  exact u64_wrap _ (bw x &&& ~~~ bw y).isLt
theorem bw_or (x y : Int) : bw (Go.bits .or .u64 x y) = bw x ||| bw y := by rw [bits_or64, bw_toNat]
theorem bw_andNot (x y : Int) : bw (Go.bits .andNot .u64 x y) = bw x &&& ~~~ bw y := by rw [bits_andNot64, bw_toNat]
/-- a word lies under another -/
def bwLe (x y : Int) : Prop := bw x ||| bw y = bw y
theorem bwLe.refl (x : Int) : bwLe x x := by simp [bwLe]
theorem bwLe.trans {x y z : Int} (h : bwLe x y) (k : bwLe y z) : bwLe x z := by
  unfold bwLe at *
  rw [← k, ← BitVec.or_assoc, h]
theorem bwLe_or_left (x y : Int) : bwLe x (Go.bits .or .u64 x y) := by
  unfold bwLe
  rw [bw_or, ← BitVec.or_assoc, BitVec.or_self]
theorem bwLe_or {x y : Int} (h : bwLe x y) (z : Int) : bwLe (Go.bits .or .u64 x z) (Go.bits .or .u64 y z) := by
  unfold bwLe at *
  rw [bw_or, bw_or, ← h]
  ext i hi
  simp only [BitVec.getElem_or, BitVec.getElem_and, BitVec.getElem_not]
  cases (bw x)[i] <;> cases (bw y)[i] <;> cases (bw z)[i] <;> decide
theorem bwLe_andNot {x y : Int} (h : bwLe x y) (z : Int) : bwLe (Go.bits .andNot .u64 x z) (Go.bits .andNot .u64 y z) := by
  unfold bwLe at *
  rw [bw_andNot, bw_andNot, ← h]
  ext i hi
  simp only [BitVec.getElem_or, BitVec.getElem_and, BitVec.getElem_not]
  cases (bw x)[i] <;> cases (bw y)[i] <;> cases (bw z)[i] <;> decide
end Go.Proofs.Ytadaopfcgpfiiaa
namespace Go.Proofs.Ytadaopfcgpfiiaa
open Go.RowKit Go.Proofs.YtadaopfcgpfiiaaW.PrintWords Go.Proofs.YtadaopfcgpfiiaaW.PrintLast Go.Proofs.YtadaopfcgpfiiaaW.PrintMore PCg
set_option linter.unusedVariables false
set_option linter.unusedSimpArgs false
def setAdd (s : List Int) (r : Int) : List Int := s.set (r / 64).toNat (Go.bits .or .u64 (rd s (r / 64)) (shl .u64 1 (r % 64)))
def setDel (s : List Int) (r : Int) : List Int := s.set (r / 64).toNat (Go.bits .andNot .u64 (rd s (r / 64)) (shl .u64 1 (r % 64)))
theorem tdiv64 {r : Int} (h : 0 ≤ r) : Int.tdiv r 64 = r / 64 := Int.tdiv_eq_ediv_of_nonneg h
theorem tmod64 {r : Int} (h : 0 ≤ r) : Int.tmod r 64 = r % 64 := Int.tmod_eq_emod_of_nonneg h
theorem setAdd_f {s : List Int} {r : Int} (h0 : 0 ≤ r) (h1 : r < 64 * s.length) (h2 : s.length ≤ 1000000) : liveness_set_add.f s r = some (setAdd s r) := by
  unfold liveness_set_add.f
  rw [tdiv64 h0, tmod64 h0, w64 (n := r / 64) (by omega), if_pos (by omega), if_pos (by omega), if_pos (by omega)]
  rfl
theorem setDel_f {s : List Int} {r : Int} (h0 : 0 ≤ r) (h1 : r < 64 * s.length) (h2 : s.length ≤ 1000000) : liveness_set_remove.f s r = some (setDel s r) := by
  unfold liveness_set_remove.f
  rw [tdiv64 h0, tmod64 h0, w64 (n := r / 64) (by omega), if_pos (by omega), if_pos (by omega), if_pos (by omega)]
  rfl
theorem setAdd_len (s : List Int) (r : Int) : (setAdd s r).length = s.length := by simp [setAdd]
theorem setDel_len (s : List Int) (r : Int) : (setDel s r).length = s.length := by simp [setDel]
/-- a set lies under another -/
def sLe (s t : List Int) : Prop := s.length = t.length ∧ ∀ i : Nat, i < s.length → bwLe (s.getD i 0) (t.getD i 0)
theorem sLe.refl (s : List Int) : sLe s s := ⟨rfl, fun i _ => bwLe.refl _⟩
theorem sLe.trans {s t u : List Int} (h : sLe s t) (k : sLe t u) : sLe s u := ⟨h.1.trans k.1, fun i hi => (h.2 i hi).trans (k.2 i (by rw [← h.1]; exact hi))⟩
theorem sLe.set {s t : List Int} (h : sLe s t) (j : Nat) {u v : Int} (hv : bwLe u v) : sLe (s.set j u) (t.set j v) := by
  refine ⟨by simp [h.1], fun i hi => ?_⟩
  have hi' : i < s.length := by simpa using hi
  have hi2 : i < t.length := by rw [← h.1]; exact hi'
  have h2 := h.2 i hi'
  simp only [List.getD_eq_getElem?_getD, List.getElem?_set] at h2 ⊢
  by_cases e : j = i
  · subst e
    rw [if_pos rfl, if_pos rfl, if_pos hi', if_pos hi2]
    exact hv
  · rw [if_neg e, if_neg e]
    exact h2
theorem sLe.add {s t : List Int} (h : sLe s t) {r : Int} (h0 : 0 ≤ r) (h1 : r < 64 * s.length) : sLe (setAdd s r) (setAdd t r) :=
  h.set _ (bwLe_or (h.2 (r / 64).toNat (by omega)) _)
theorem sLe.del {s t : List Int} (h : sLe s t) {r : Int} (h0 : 0 ≤ r) (h1 : r < 64 * s.length) : sLe (setDel s r) (setDel t r) :=
  h.set _ (bwLe_andNot (h.2 (r / 64).toNat (by omega)) _)
end Go.Proofs.Ytadaopfcgpfiiaa
namespace Go.Proofs.Ytadaopfcgpfiiaa
open Go.RowKit Go.Proofs.YtadaopfcgpfiiaaW.PrintWords Go.Proofs.YtadaopfcgpfiiaaW.PrintLast Go.Proofs.YtadaopfcgpfiiaaW.PrintMore PCg
set_option linter.unusedVariables false
set_option linter.unusedSimpArgs false
/-- the registers that are live ahead of an instruction -/
def beforeL (i : S51) (s : List Int) : List Int := (usesL i).foldl setAdd (if (shp i.f0).d = true then setDel s i.f1 else s)
theorem adds_len (l : List Int) : ∀ s : List Int, (l.foldl setAdd s).length = s.length := by
  induction l with
  | nil => intro s; rfl
  | cons r l ih => intro s; rw [List.foldl_cons, ih, setAdd_len]
theorem beforeL_len (i : S51) (s : List Int) : (beforeL i s).length = s.length := by
  unfold beforeL
  rw [adds_len]
  split
  · exact setDel_len _ _
  · rfl
theorem adds_go (us : List Int) (hl : us.length ≤ 1000000) : ∀ n j fuel : Nat, ∀ s : List Int, j + n = us.length → n < fuel → s.length ≤ 1000000 → (∀ r ∈ us, 0 ≤ r ∧ r < 64 * s.length) →
    liveness_before.l0 fuel s us (us.length : Int) (j : Int) = some ((us.drop j).foldl setAdd s) := by
  intro n
  induction n with
  | zero =>
    intro j fuel s hj hf hs hr
    obtain ⟨f, rfl⟩ : ∃ f, fuel = f + 1 := ⟨fuel - 1, by omega⟩
    unfold liveness_before.l0
    rw [if_neg (by omega), List.drop_eq_nil_of_le (by omega)]
    rfl
  | succ n ih =>
    intro j fuel s hj hf hs hr
    obtain ⟨f, rfl⟩ : ∃ f, fuel = f + 1 := ⟨fuel - 1, by omega⟩
    have hjl : j < us.length := by omega
    have he : rd us (j : Int) = us[j] := by simp [rd, hjl]
    obtain ⟨h0, h1⟩ := hr _ (List.getElem_mem hjl)
    unfold liveness_before.l0
    rw [if_pos (by omega), if_pos (by omega), if_pos (by omega), he, setAdd_f h0 h1 hs, Option.bind_some, w64 (n := (j : Int) + 1) (by omega)]
    rw [List.drop_eq_getElem_cons hjl, List.foldl_cons]
    exact ih (j + 1) f (setAdd s us[j]) (by omega) (by omega) (by rw [setAdd_len]; exact hs) (fun r hr' => by rw [setAdd_len]; exact hr r hr')
theorem before_f (regs : Int) (i : S51) (s : List Int) (hi : insWf regs i) (hr : regs ≤ 64 * s.length) (hs : s.length ≤ 1000000) : liveness_before.f 4 i.f0 i.f1 i.f2 i.f3 i.f4 i.f5 s = some (beforeL i s) := by
  obtain ⟨_, _, hu⟩ := hi
  have hd : ir_Defines.f 4 i.f0 i.f1 i.f2 i.f3 i.f4 i.f5 = some (if (shp i.f0).d then i.f1 else 0, (shp i.f0).d) := ir_Defines.mono _ _ _ _ _ _ 3 _ (defines_f i)
  have hl := usesL_len i
  have key : ∀ t : List Int, t.length = s.length → liveness_before.j0 4 t i.f0 i.f1 i.f2 i.f3 i.f4 i.f5 = some ((usesL i).foldl setAdd t) := by
    intro t ht
    show (ir_Uses.f 3 i.f0 i.f1 i.f2 i.f3 i.f4 i.f5).bind (fun t180 => liveness_before.l0 3 t t180 (t180.length : Int) 0) = _
    rw [uses_f i, Option.bind_some]
    have h := adds_go (usesL i) (by omega) (usesL i).length 0 3 t (by omega) (by omega) (by omega) (fun r hr' => by
      have := hu r (List.mem_append.2 (.inl hr'))
      rw [ht]; omega)
    exact h
  unfold liveness_before.f beforeL
  rw [hd, Option.bind_some]
  cases hsd : (shp i.f0).d with
  | false => simp only [Bool.false_eq_true, if_false]; exact key s rfl
  | true =>
    have h1 := hu i.f1 (List.mem_append.2 (.inr (by simp [defL, hsd])))
    simp only [if_true]
    rw [setDel_f h1.1 (by omega) hs, Option.bind_some]
    exact key _ (setDel_len _ _)
theorem adds_mono (l : List Int) : ∀ s t : List Int, sLe s t → (∀ r ∈ l, 0 ≤ r ∧ r < 64 * s.length) → sLe (l.foldl setAdd s) (l.foldl setAdd t) := by
  induction l with
  | nil => intro s t h _; exact h
  | cons r l ih =>
    intro s t h hr
    obtain ⟨h0, h1⟩ := hr r (List.mem_cons_self ..)
    exact ih _ _ (h.add h0 h1) (fun q hq => by rw [setAdd_len]; exact hr q (List.mem_cons_of_mem _ hq))
theorem beforeL_mono {regs : Int} {i : S51} {s t : List Int} (hi : insWf regs i) (hr : regs ≤ 64 * s.length) (h : sLe s t) : sLe (beforeL i s) (beforeL i t) := by
  obtain ⟨_, _, hu⟩ := hi
  unfold beforeL
  cases hsd : (shp i.f0).d with
  | false =>
    simp only [Bool.false_eq_true, if_false]
    exact adds_mono _ _ _ h (fun r hr' => by have := hu r (List.mem_append.2 (.inl hr')); omega)
  | true =>
    have h1 := hu i.f1 (List.mem_append.2 (.inr (by simp [defL, hsd])))
    simp only [if_true]
    exact adds_mono _ _ _ (h.del h1.1 (by omega)) (fun r hr' => by rw [setDel_len]; have := hu r (List.mem_append.2 (.inl hr')); omega)
end Go.Proofs.Ytadaopfcgpfiiaa
namespace Go.Proofs.Ytadaopfcgpfiiaa
open Go.RowKit Go.Proofs.YtadaopfcgpfiiaaW.PrintWords Go.Proofs.YtadaopfcgpfiiaaW.PrintLast Go.Proofs.YtadaopfcgpfiiaaW.PrintMore PCg
set_option linter.unusedVariables false
set_option linter.unusedSimpArgs false
def joinTo (s t : List Int) : Nat → List Int
  | 0 => s
  | k + 1 => (joinTo s t k).set k (Go.bits .or .u64 (rd (joinTo s t k) k) (rd t k))
def joinL (s t : List Int) : List Int := joinTo s t s.length
theorem joinTo_len (s t : List Int) (k : Nat) : (joinTo s t k).length = s.length := by
  induction k with
  | zero => rfl
  | succ k ih => simp [joinTo, ih]
theorem joinL_len (s t : List Int) : (joinL s t).length = s.length := joinTo_len s t _
theorem join_go (s t : List Int) (hl : s.length ≤ 1000000) (ht : t.length = s.length) : ∀ n j fuel : Nat, j + n = s.length → n < fuel →
    liveness_set_join.l0 fuel (joinTo s t j) t (s.length : Int) (j : Int) = some (joinL s t) := by
  intro n
  induction n with
  | zero =>
    intro j fuel hj hf
    obtain ⟨f, rfl⟩ : ∃ f, fuel = f + 1 := ⟨fuel - 1, by omega⟩
    unfold liveness_set_join.l0
    rw [if_neg (by omega), joinL, show j = s.length by omega]
  | succ n ih =>
    intro j fuel hj hf
    obtain ⟨f, rfl⟩ : ∃ f, fuel = f + 1 := ⟨fuel - 1, by omega⟩
    unfold liveness_set_join.l0
    rw [if_pos (by omega), if_pos (by omega), if_pos (by rw [joinTo_len]; omega), if_pos (by omega), w64 (n := (j : Int) + 1) (by omega)]
    exact ih (j + 1) f (by omega) (by omega)
theorem join_f (s t : List Int) (hl : s.length ≤ 1000000) (ht : t.length = s.length) (K : Nat) (hK : s.length < K) : liveness_set_join.f K s t = some (joinL s t) :=
  join_go s t hl ht s.length 0 K (by omega) hK
theorem joinTo_le (s t : List Int) (k : Nat) : sLe s (joinTo s t k) := by
  induction k with
  | zero => exact sLe.refl _
  | succ k ih =>
    refine ih.trans ⟨by simp [joinTo], fun i hi => ?_⟩
    simp only [joinTo, List.getD_eq_getElem?_getD, List.getElem?_set]
    by_cases e : k = i
    · subst e
      rw [if_pos rfl, if_pos hi]
      have : rd (joinTo s t k) (k : Int) = (joinTo s t k)[k]?.getD 0 := by simp [rd]
      rw [this]
      exact bwLe_or_left _ _
    · rw [if_neg e]
      exact bwLe.refl _
theorem joinL_le (s t : List Int) : sLe s (joinL s t) := joinTo_le s t _
end Go.Proofs.Ytadaopfcgpfiiaa
namespace Go.Proofs.Ytadaopfcgpfiiaa
open Go.RowKit Go.Proofs.YtadaopfcgpfiiaaW.PrintWords Go.Proofs.YtadaopfcgpfiiaaW.PrintLast Go.Proofs.YtadaopfcgpfiiaaW.PrintMore PCg
set_option linter.unusedVariables false
set_option linter.unusedSimpArgs false
def CanW (x : Int) : Prop := ∃ v : BitVec 64, x = (v.toNat : Int)
def Canon (s : List Int) : Prop := ∀ x ∈ s, CanW x
theorem canW_bw {x : Int} (h : CanW x) : ((bw x).toNat : Int) = x := by
  obtain ⟨v, rfl⟩ := h
  rw [bw_toNat]
theorem canW_or (x y : Int) : CanW (Go.bits .or .u64 x y) := ⟨_, bits_or64 x y⟩
theorem canW_andNot (x y : Int) : CanW (Go.bits .andNot .u64 x y) := ⟨_, bits_andNot64 x y⟩
theorem Canon.set {s : List Int} (h : Canon s) (j : Nat) {x : Int} (hx : CanW x) : Canon (s.set j x) := fun y hy => by
  rcases List.mem_or_eq_of_mem_set hy with hy | rfl
  · exact h y hy
  · exact hx
theorem Canon.add {s : List Int} (h : Canon s) (r : Int) : Canon (setAdd s r) := h.set _ (canW_or _ _)
theorem Canon.del {s : List Int} (h : Canon s) (r : Int) : Canon (setDel s r) := h.set _ (canW_andNot _ _)
theorem Canon.adds (l : List Int) : ∀ s : List Int, Canon s → Canon (l.foldl setAdd s) := by
  induction l with
  | nil => intro s h; exact h
  | cons r l ih => intro s h; exact ih _ (h.add r)
theorem Canon.before {s : List Int} (h : Canon s) (i : S51) : Canon (beforeL i s) := by
  unfold beforeL
  refine Canon.adds _ _ ?_
  split
  · exact h.del _
  · exact h
theorem Canon.joinTo {s : List Int} (h : Canon s) (t : List Int) (k : Nat) : Canon (joinTo s t k) := by
  induction k with
  | zero => exact h
  | succ k ih => exact ih.set _ (canW_or _ _)
theorem Canon.join {s : List Int} (h : Canon s) (t : List Int) : Canon (joinL s t) := h.joinTo t _
theorem sLe_cons {x y : Int} {s t : List Int} (h : sLe (x :: s) (y :: t)) : bwLe x y ∧ sLe s t := by
  refine ⟨h.2 0 (by simp), by have := h.1; simpa using this, fun i hi => ?_⟩
  have := h.2 (i + 1) (by simpa using hi)
  simpa using this
end Go.Proofs.Ytadaopfcgpfiiaa
namespace Go.Proofs.Ytadaopfcgpfiiaa
open Go.RowKit Go.Proofs.YtadaopfcgpfiiaaW.PrintWords Go.Proofs.YtadaopfcgpfiiaaW.PrintLast Go.Proofs.YtadaopfcgpfiiaaW.PrintMore PCg
set_option linter.unusedVariables false
set_option linter.unusedSimpArgs false
def atEndL (b : S49) (s : List Int) : List Int := if b.f1 = 2 then setAdd s b.f2 else s
end Go.Proofs.Ytadaopfcgpfiiaa
namespace Go.Proofs.Ytadaopfcgpfiiaa
open Go.RowKit Go.Proofs.YtadaopfcgpfiiaaW.PrintWords Go.Proofs.YtadaopfcgpfiiaaW.PrintLast Go.Proofs.YtadaopfcgpfiiaaW.PrintMore PCg
set_option linter.unusedVariables false
set_option linter.unusedSimpArgs false
def bitOf (s : List Int) (r : Int) : Bool := (bw (rd s (r / 64))).getLsbD (r % 64).toNat
theorem shl_one {m : Int} (h0 : 0 ≤ m) (h1 : m < 64) : shl .u64 1 m = ((2 ^ m.toNat : Nat) : Int) := by
  unfold shl
  have hb : IntKind.u64.bits = 64 := rfl
  rw [hb, Nat.min_eq_left (by omega), Int.one_mul]
  have h2 : (2 ^ m.toNat : Nat) < 18446744073709551616 := by
    have : (2 : Nat) ^ m.toNat < 2 ^ 64 := Nat.pow_lt_pow_right (by omega) (by omega)
    simpa using this
  have e : ((2 : Int) ^ m.toNat) = ((2 ^ m.toNat : Nat) : Int) := by simp
  rw [e, u64_wrap _ h2]
theorem bit_one {m : Int} (h0 : 0 ≤ m) (h1 : m < 64) (i : Nat) : (bw (shl .u64 1 m)).getLsbD i = decide (m.toNat = i) := by
  rw [shl_one h0 h1]
  have : bw ((2 ^ m.toNat : Nat) : Int) = BitVec.twoPow 64 m.toNat := by
    unfold bw
    rw [BitVec.ofInt_natCast]
    apply BitVec.eq_of_toNat_eq
    rw [BitVec.toNat_ofNat, BitVec.toNat_twoPow]
  rw [this, BitVec.getLsbD_twoPow]
  by_cases e : m.toNat = i
  · subst e; simp; omega
  · simp [e]
theorem bit_add {s : List Int} {q r : Int} (hq : 0 ≤ q) (hr : 0 ≤ r) (h : bitOf (setAdd s q) r = true) : bitOf s r = true ∨ r = q := by
  unfold bitOf setAdd rd at *
  simp only [List.getD_eq_getElem?_getD, List.getElem?_set] at h ⊢
  by_cases e : (q / 64).toNat = (r / 64).toNat
  · rw [if_pos e] at h
    split at h
    · simp only [Option.getD_some] at h
      rw [bw_or, BitVec.getLsbD_or, Bool.or_eq_true] at h
      rcases h with h | h
      · left
        rw [← e]
        exact h
      · right
        rw [bit_one (by omega) (by omega)] at h
        simp at h
        omega
    · simp [bw] at h
  · rw [if_neg e] at h
    exact .inl h
theorem bit_del {s : List Int} {q r : Int} (h : bitOf (setDel s q) r = true) : bitOf s r = true := by
  unfold bitOf setDel rd at *
  simp only [List.getD_eq_getElem?_getD, List.getElem?_set] at h ⊢
  by_cases e : (q / 64).toNat = (r / 64).toNat
  · rw [if_pos e] at h
    split at h
    · simp only [Option.getD_some] at h
      rw [bw_andNot, BitVec.getLsbD_and, Bool.and_eq_true] at h
      rw [← e]
      exact h.1
    · simp [bw] at h
  · rw [if_neg e] at h
    exact h
theorem bit_joinTo {s t : List Int} {r : Int} (k : Nat) (h : bitOf (joinTo s t k) r = true) : bitOf s r = true ∨ bitOf t r = true := by
  induction k with
  | zero => exact .inl h
  | succ k ih =>
    unfold bitOf joinTo at h
    rw [show rd ((joinTo s t k).set k (Go.bits .or .u64 (rd (joinTo s t k) k) (rd t k))) (r / 64) = ((joinTo s t k).set k (Go.bits .or .u64 (rd (joinTo s t k) k) (rd t k))).getD (r / 64).toNat 0 from rfl] at h
    simp only [List.getD_eq_getElem?_getD, List.getElem?_set] at h
    by_cases e : k = (r / 64).toNat
    · rw [if_pos e] at h
      split at h
      · simp only [Option.getD_some] at h
        rw [bw_or, BitVec.getLsbD_or, Bool.or_eq_true] at h
        rcases h with h | h
        · apply ih
          unfold bitOf rd
          rw [← e]
          simpa [rd] using h
        · right
          unfold bitOf rd
          rw [← e]
          simpa [rd] using h
      · simp [bw] at h
    · rw [if_neg e] at h
      apply ih
      unfold bitOf rd
      rw [List.getD_eq_getElem?_getD]
      exact h
/-- every member is below n -/
def Bnd (n : Int) (s : List Int) : Prop := ∀ r : Int, 0 ≤ r → bitOf s r = true → r < n
theorem Bnd.zeros (n : Int) (L : Nat) : Bnd n (List.replicate L 0) := by
  intro r hr h
  unfold bitOf rd at h
  rw [List.getD_eq_getElem?_getD, List.getElem?_replicate] at h
  split at h <;> simp [bw] at h
theorem Bnd.add {n : Int} {s : List Int} (h : Bnd n s) {q : Int} (h0 : 0 ≤ q) (h1 : q < n) : Bnd n (setAdd s q) := fun r hr hb => by
  rcases bit_add h0 hr hb with h2 | rfl
  · exact h r hr h2
  · exact h1
theorem Bnd.del {n : Int} {s : List Int} (h : Bnd n s) (q : Int) : Bnd n (setDel s q) := fun r hr hb => h r hr (bit_del hb)
theorem Bnd.join {n : Int} {s t : List Int} (h : Bnd n s) (h' : Bnd n t) : Bnd n (joinL s t) := fun r hr hb => by
  rcases bit_joinTo _ hb with h2 | h2
  · exact h r hr h2
  · exact h' r hr h2
theorem Bnd.adds {n : Int} (l : List Int) (hl : ∀ r ∈ l, 0 ≤ r ∧ r < n) : ∀ s, Bnd n s → Bnd n (l.foldl setAdd s) := by
  induction l with
  | nil => intro s h; exact h
  | cons r l ih =>
    intro s h
    obtain ⟨h0, h1⟩ := hl r (List.mem_cons_self ..)
    exact ih (fun q hq => hl q (List.mem_cons_of_mem _ hq)) _ (h.add h0 h1)
theorem Bnd.before {n : Int} {i : S51} {s : List Int} (hi : insWf n i) (h : Bnd n s) : Bnd n (beforeL i s) := by
  obtain ⟨_, _, hu⟩ := hi
  unfold beforeL
  refine Bnd.adds _ (fun r hr => hu r (List.mem_append_left _ hr)) _ ?_
  split
  · exact h.del _
  · exact h
theorem has_f {s : List Int} {r : Int} (hc : Canon s) (h0 : 0 ≤ r) (h1 : r < 64 * s.length) (h2 : s.length ≤ 1000000) : liveness_set_has.f s r = some (bitOf s r) := by
  unfold liveness_set_has.f
  rw [tdiv64 h0, tmod64 h0, w64 (n := r / 64) (by omega), if_pos (by omega), if_pos (by omega), if_pos (by omega)]
  congr 1
  have hcw : CanW (rd s (r / 64)) := by
    have : rd s (r / 64) ∈ s := by
      unfold rd
      rw [List.getD_eq_getElem?_getD, List.getElem?_eq_getElem (by omega)]
      simp
    exact hc _ this
  obtain ⟨v, hv⟩ := hcw
  unfold bitOf
  rw [hv, bw_toNat]
  have hm : (r % 64).toNat < 64 := by omega
  have hsh : shr .u64 (v.toNat : Int) (r % 64) = ((v >>> (r % 64).toNat).toNat : Int) := by
    unfold shr
    have hb : IntKind.u64.bits = 64 := rfl
    rw [hb, Nat.min_eq_left (by omega), BitVec.toNat_ushiftRight, Nat.shiftRight_eq_div_pow]
    simp
  rw [hsh]
  have hand : Go.bits .and .u64 ((v >>> (r % 64).toNat).toNat : Int) 1 = (((v >>> (r % 64).toNat) &&& 1#64).toNat : Int) := by
    show IntKind.u64.wrap ((bw ((v >>> (r % 64).toNat).toNat : Int) &&& bw 1).toNat : Int) = _
    rw [u64_wrap _ (bw ((v >>> (r % 64).toNat).toNat : Int) &&& bw 1).isLt, bw_toNat]
    rfl
  rw [hand]
  have hk : ((v >>> (r % 64).toNat) &&& 1#64) = if v.getLsbD (r % 64).toNat then 1#64 else 0#64 := by
    rw [BitVec.and_one_eq_setWidth_ofBool_getLsbD]
    rw [BitVec.getLsbD_ushiftRight, Nat.add_zero]
    cases v.getLsbD (r % 64).toNat <;> rfl
  rw [hk]
  cases v.getLsbD (r % 64).toNat <;> rfl
end Go.Proofs.Ytadaopfcgpfiiaa
namespace Go.Proofs.Ytadaopfcgpfiiaa
open Go.RowKit Go.Proofs.YtadaopfcgpfiiaaW.PrintWords Go.Proofs.YtadaopfcgpfiiaaW.PrintLast Go.Proofs.YtadaopfcgpfiiaaW.PrintMore PCg
set_option linter.unusedVariables false
set_option linter.unusedSimpArgs false
/-- the registers live at the beginning of a block, out of those at its end -/
def backL (l : List S51) (s : List Int) : List Int := l.foldl (fun s i => beforeL i s) s
def liveB (b : S49) (s : List Int) : List Int := backL b.f0.reverse (atEndL b s)
theorem backL_len (l : List S51) : ∀ s, (backL l s).length = s.length := by
  induction l with
  | nil => intro s; rfl
  | cons i l ih => intro s; rw [backL, List.foldl_cons]; exact (ih _).trans (beforeL_len i s)
theorem atEndL_len (b : S49) (s : List Int) : (atEndL b s).length = s.length := by
  unfold atEndL; split
  · exact setAdd_len _ _
  · rfl
theorem liveB_len (b : S49) (s : List Int) : (liveB b s).length = s.length := (backL_len _ _).trans (atEndL_len b s)
theorem backL_mono {regs : Int} (l : List S51) : ∀ s t : List Int, (∀ i ∈ l, insWf regs i) → regs ≤ 64 * s.length → sLe s t → sLe (backL l s) (backL l t) := by
  induction l with
  | nil => intro s t _ _ h; exact h
  | cons i l ih =>
    intro s t hw hr h
    exact ih _ _ (fun q hq => hw q (List.mem_cons_of_mem _ hq)) (by rw [beforeL_len]; exact hr) (beforeL_mono (hw i (List.mem_cons_self ..)) hr h)
theorem liveB_mono {regs nb : Int} {b : S49} {s t : List Int} (hb : BlkWf regs nb b) (hr : regs ≤ 64 * s.length) (h : sLe s t) : sLe (liveB b s) (liveB b t) := by
  refine backL_mono _ _ _ (fun i hi => hb.ins i (List.mem_reverse.1 hi)) (by rw [atEndL_len]; exact hr) ?_
  unfold atEndL
  by_cases e : b.f1 = 2
  · rw [if_pos e, if_pos e]
    have := hb.x e
    exact h.add this.1 (by omega)
  · rw [if_neg e, if_neg e]; exact h
theorem backL_canon (l : List S51) : ∀ s, Canon s → Canon (backL l s) := by
  induction l with
  | nil => intro s h; exact h
  | cons i l ih => intro s h; exact ih _ (h.before i)
theorem atEndL_canon (b : S49) {s : List Int} (h : Canon s) : Canon (atEndL b s) := by
  unfold atEndL; split
  · exact h.add _
  · exact h
theorem liveB_canon (b : S49) {s : List Int} (h : Canon s) : Canon (liveB b s) := backL_canon _ _ (atEndL_canon b h)
theorem backL_bnd {n : Int} (l : List S51) : ∀ s, (∀ i ∈ l, insWf n i) → Bnd n s → Bnd n (backL l s) := by
  induction l with
  | nil => intro s _ h; exact h
  | cons i l ih => intro s hw h; exact ih _ (fun q hq => hw q (List.mem_cons_of_mem _ hq)) (h.before (hw i (List.mem_cons_self ..)))
theorem atEndL_bnd {regs nb : Int} {b : S49} {s : List Int} (hb : BlkWf regs nb b) (h : Bnd regs s) : Bnd regs (atEndL b s) := by
  unfold atEndL
  by_cases e : b.f1 = 2
  · rw [if_pos e]; exact h.add (hb.x e).1 (hb.x e).2
  · rw [if_neg e]; exact h
theorem liveB_bnd {regs nb : Int} {b : S49} {s : List Int} (hb : BlkWf regs nb b) (h : Bnd regs s) : Bnd regs (liveB b s) :=
  backL_bnd _ _ (fun i hi => hb.ins i (List.mem_reverse.1 hi)) (atEndL_bnd hb h)
theorem newSet_f {regs : Int} (h0 : 0 ≤ regs) (h1 : regs ≤ 10000) : liveness_newSet.f regs = some (List.replicate ((regs + 63) / 64).toNat 0) := by
  unfold liveness_newSet.f
  rw [w64 (n := regs + 63) (by omega), tdiv64 (by omega), w64 (n := (regs + 63) / 64) (by omega), if_pos (by omega), if_pos (by omega)]
theorem canon_zeros (L : Nat) : Canon (List.replicate L 0) := fun x hx => ⟨0#64, by have := List.eq_of_mem_replicate hx; rw [this]; rfl⟩
/-- the members below k, in order -/
def listTo (s : List Int) (k : Nat) : List Int := ((List.range k).filter fun r : Nat => bitOf s (r : Int)).map fun r : Nat => (r : Int)
theorem listTo_succ (s : List Int) (k : Nat) : listTo s (k + 1) = if bitOf s k = true then listTo s k ++ [(k : Int)] else listTo s k := by
  unfold listTo
  rw [List.range_succ, List.filter_append, List.map_append]
  by_cases h : bitOf s (k : Int) = true
  · rw [if_pos h]; simp [List.filter_cons, h]
  · rw [if_neg h]; simp [List.filter_cons, h]
theorem listTo_len (s : List Int) (k : Nat) : (listTo s k).length ≤ k := by
  unfold listTo
  rw [List.length_map]
  refine Nat.le_trans (List.length_filter_le _ _) ?_
  simp
theorem listTo_mem {s : List Int} {k : Nat} {x : Int} (h : x ∈ listTo s k) : 0 ≤ x ∧ x < k ∧ bitOf s x = true := by
  unfold listTo at h
  obtain ⟨r, hr, rfl⟩ := List.mem_map.1 h
  rw [List.mem_filter, List.mem_range] at hr
  exact ⟨by omega, by omega, hr.2⟩
theorem list_go {s : List Int} (hc : Canon s) (hl : s.length ≤ 1000000) : ∀ n j fuel : Nat, j + n = 64 * s.length → n < fuel →
    liveness_set_list.l0 fuel s (listTo s j) (64 * (s.length : Int)) (j : Int) = some (listTo s (64 * s.length)) := by
  intro n
  induction n with
  | zero =>
    intro j fuel hj hf
    obtain ⟨f, rfl⟩ : ∃ f, fuel = f + 1 := ⟨fuel - 1, by omega⟩
    unfold liveness_set_list.l0
    rw [if_neg (by omega), show j = 64 * s.length by omega]
  | succ n ih =>
    intro j fuel hj hf
    obtain ⟨f, rfl⟩ : ∃ f, fuel = f + 1 := ⟨fuel - 1, by omega⟩
    unfold liveness_set_list.l0
    rw [if_pos (by omega), has_f hc (by omega) (by omega) hl, Option.bind_some, w64 (n := (j : Int) + 1) (by omega)]
    have h := ih (j + 1) f (by omega) (by omega)
    rw [listTo_succ] at h
    have hll := listTo_len s j
    by_cases hb : bitOf s (j : Int) = true
    · rw [if_pos hb] at h
      rw [if_pos hb, if_pos (by omega)]
      exact h
    · rw [if_neg hb] at h
      rw [if_neg hb]
      exact h
theorem list_f {s : List Int} (hc : Canon s) (hl : s.length ≤ 1000000) : liveness_set_list.f (64 * s.length + 1) s = some (listTo s (64 * s.length)) := by
  unfold liveness_set_list.f
  rw [w64 (n := 64 * (s.length : Int)) (by omega)]
  exact list_go hc hl (64 * s.length) 0 _ (by omega) (by omega)
theorem equal_go (s t : List Int) (hl : s.length ≤ 1000000) (ht : t.length = s.length) : ∀ n j fuel : Nat, j + n = s.length → n < fuel →
    liveness_set_uint64_118.l0 fuel s t (s.length : Int) (j : Int) = some (decide (s.drop j = t.drop j)) := by
  intro n
  induction n with
  | zero =>
    intro j fuel hj hf
    obtain ⟨f, rfl⟩ : ∃ f, fuel = f + 1 := ⟨fuel - 1, by omega⟩
    unfold liveness_set_uint64_118.l0
    rw [if_neg (by omega), List.drop_eq_nil_of_le (by omega), List.drop_eq_nil_of_le (by omega)]
    simp
  | succ n ih =>
    intro j fuel hj hf
    obtain ⟨f, rfl⟩ : ∃ f, fuel = f + 1 := ⟨fuel - 1, by omega⟩
    unfold liveness_set_uint64_118.l0
    rw [if_pos (by omega), if_pos (by omega), if_pos (by omega), if_pos (by omega)]
    have e1 : rd s (j : Int) = s[j]'(by omega) := by simp [rd, show j < s.length by omega]
    have e2 : rd t (j : Int) = t[j]'(by omega) := by simp [rd, show j < t.length by omega]
    rw [e1, e2, @List.drop_eq_getElem_cons _ j s (by omega), @List.drop_eq_getElem_cons _ j t (by omega), w64 (n := (j : Int) + 1) (by omega)]
    by_cases e : s[j]'(by omega) = t[j]'(by omega)
    · rw [if_pos e]
      have h := ih (j + 1) f (by omega) (by omega)
      refine h.trans ?_
      congr 1
      rw [decide_eq_decide]
      constructor
      · intro h2; rw [e, h2]
      · intro h2; injection h2
    · rw [if_neg e]
      congr 1
      symm
      rw [decide_eq_false_iff_not]
      intro h
      injection h with h1 h2
      exact e h1
theorem equal_f {s t : List Int} (hl : s.length ≤ 1000000) (ht : t.length = s.length) : liveness_set_equal.f (s.length + 1) s t = some (decide (s = t)) := by
  unfold liveness_set_equal.f liveness_set_uint64_118.f
  rw [if_pos (by omega)]
  have h := equal_go s t hl ht s.length 0 (s.length + 1) (by omega) (by omega)
  simp only [List.drop_zero] at h
  rw [show ((0 : Nat) : Int) = 0 from rfl] at h
  rw [h]
  rfl
end Go.Proofs.Ytadaopfcgpfiiaa
namespace Go.Proofs.Ytadaopfcgpfiiaa
open Go.RowKit Go.Proofs.YtadaopfcgpfiiaaW.PrintWords Go.Proofs.YtadaopfcgpfiiaaW.PrintLast Go.Proofs.YtadaopfcgpfiiaaW.PrintMore PCg
set_option linter.unusedVariables false
set_option linter.unusedSimpArgs false
attribute [local go_sem] Oper.semAt_some
def insV (i : S51) : Value := .agg #[.int .u8 i.f0, .int .i64 i.f1, .int .i64 i.f2, .int .i64 i.f3, .int .i64 i.f4, .string i.f5]
def encB (x : Int × S51) : Array Value := #[.int .i64 x.1, insV x.2]
/-- what has come when k rounds are over -/
def seqB (code : List S51) (k : Nat) : List (Int × S51) := (List.range k).map fun j : Nat => ((code.length : Int) - 1 - j, rd_T51 code ((code.length : Int) - 1 - j))
theorem seqB_succ (code : List S51) (k : Nat) : seqB code (k + 1) = seqB code k ++ [((code.length : Int) - 1 - k, rd_T51 code ((code.length : Int) - 1 - k))] := by simp [seqB, List.range_succ]
theorem seqB_length (code : List S51) (k : Nat) : (seqB code k).length = k := by simp [seqB]
theorem seqB_all (code : List S51) : (seqB code code.length).map (·.2) = code.reverse := by
  apply List.ext_getElem
  · simp [seqB]
  · intro i h1 h2
    have hi : i < code.length := by simpa [seqB] using h1
    simp only [seqB, List.getElem_map, List.getElem_range, List.getElem_reverse, rd_T51]
    rw [show ((code.length : Int) - 1 - (i : Int)).toNat = code.length - 1 - i by omega, List.getD_eq_getElem?_getD, List.getElem?_eq_getElem (by omega)]
    rfl
/-- what each round keeps: what came in, and the slice's box -/
def KB (B bx : Nat) (W W' : World) : Prop := Below B W W' ∧ W'.heap[bx]? = W.heap[bx]?
theorem KB.refl (B bx : Nat) (W : World) : KB B bx W W := ⟨Below.refl _ _, rfl⟩
theorem KB.trans {B bx : Nat} {W W1 W2 : World} (h : KB B bx W W1) (k : KB B bx W1 W2) : KB B bx W W2 := ⟨h.1.trans k.1, k.2.trans h.2⟩
theorem KB.putObj {B bx : Nat} {w : World} (hB : B ≤ w.heap.size) (hb : bx < w.heap.size) (W : World) (l : Nat) (o o' : Obj) (hl : w.heap.size ≤ l) (h : W.heap[l]? = some o) (_ : o.isCells = false) (_ : o.isWalk = false) : KB B bx W (W.putObj l o') :=
  ⟨belowK_b hB W l o o' hl h ‹_› ‹_›, World.putObj_heap_other (by omega)⟩
set_option maxRecDepth 100000 in
set_option maxHeartbeats 2000000 in
theorem back1_in (n l bx : Nat) (A : Option Addr) (c : Nat) (code : List S51) (w0 : World) (hn : 1 ≤ n) (hr : Kd.C k51 w0 A code.length code) (hcp : code.length ≤ c) (hm : code.length ≤ 1000000) (p : S51 → Prop) (hp : ∀ i ∈ code, p i) (J Jx : List (Int × S51) → World → Prop)
    (hY : ∀ pre x W, p x.2 → J pre W → pre.length < code.length → YieldAt Fence.wide (n - 1) Try.prog l (encB x) W fun e W' =>
      (e = .returned (.bool true) ∧ J (pre ++ [x]) W' ∧ KB w0.heap.size bx W W') ∨ (e = .returned (.bool false) ∧ Jx (pre ++ [x]) W'))
    (W : World) (hB : Below w0.heap.size w0 W) (hBs : W.heap[bx]? = some (.cells #[.slice A code.length c] 47 (0, 0))) (h0 : J [] W) :
    CallsIn Fence.wide n Try.prog 110 #[.func (.yield l) #[] #[], .pointer (some ⟨bx, 0, none⟩)] W fun e W' => (∃ v, e = .returned v) ∧
      ((∃ ys, ys = seqB code code.length ∧ J ys W') ∨ (∃ pre, (∃ k, k ≤ code.length ∧ pre = seqB code k) ∧ Jx pre W')) := by
  have HR := Aside0.mk hr; have HP := Aside0.mk hp; clear hr hp
  have HBS := Aside0.mk hBs
  have b0 := blk1 hBs
  clear hBs
  have hu := Try.underlying51
  refine callsIn_of_wp Try.func110 rfl trivial ?_ rfl
  simp only [Try.ntmps110, List.size_toArray, List.length_cons, List.length_nil, Nat.reduceAdd, Nat.reduceSub, Array.replicate_succ, Array.replicate_zero, List.push_toArray, List.append_toArray, List.nil_append, List.cons_append]
  gi_wp2
  gi_loopw [3] (fun i wr => ∃ k : Nat, k ≤ code.length ∧ i = .int .i64 ((code.length : Int) - 1 - k) ∧ Aside0 (J (seqB code k) wr) ∧ Aside0 (KB w0.heap.size bx W wr))
    (fun i _ => (intOf i + 1).toNat)
  case atStart => exact ⟨0, Nat.zero_le _, by simp, ⟨h0⟩, ⟨KB.refl _ _ _⟩⟩
  case round =>
    obtain ⟨k, hk, rfl, HJ, HK⟩ := hrel
    have hbs := HK.out.2.trans HBS.out
    have b1 := blk1 hbs
    clear hbs b0
    obtain ⟨x, hx⟩ : ∃ x : Int, (code.length : Int) - 1 - k = x := ⟨_, rfl⟩
    have HX := Aside0.mk hx
    have hx1 : x < code.length := by omega
    by_cases hlt : 0 ≤ x
    · obtain ⟨ad, hA, i0, i1, i2, i3, i4, i5⟩ := at_T51 HR.out x hlt hx1
      cases hA
      have hBx := (hB.trans HK.out.1)
      replace i0 := (hBx.cell (World.block_lt_of_cell? w0 _ i0)).trans i0
      replace i1 := (hBx.cell (World.block_lt_of_cell? w0 _ i1)).trans i1
      replace i2 := (hBx.cell (World.block_lt_of_cell? w0 _ i2)).trans i2
      replace i3 := (hBx.cell (World.block_lt_of_cell? w0 _ i3)).trans i3
      replace i4 := (hBx.cell (World.block_lt_of_cell? w0 _ i4)).trans i4
      replace i5 := (hBx.cell (World.block_lt_of_cell? w0 _ i5)).trans i5
      have p1 := eq_true hlt
      have q1 := eq_true hx1
      obtain ⟨fn, tmps, assign, body, hy, hR⟩ := hY _ (x, rd_T51 code x) wr (HP.out _ (mem_rd (z := z51) hlt hx1)) HJ.out (by rw [seqB_length]; omega)
      have HS := Aside0.mk (seqB_succ code k)
      rw [hx] at HS ⊢
      simp only [encB, insV] at hy hR
      have HR2 := Aside0.mk hR; clear hR hBx hx
      gi_wp2
      refine HR2.out.mono ?_
      rintro e W3 (⟨rfl, hJ3, hk3⟩ | ⟨rfl, hJx3⟩)
      · have HJ3 := Aside0.mk hJ3; have HK3 := Aside0.mk (HK.out.trans hk3)
        clear hJ3 hk3 HJ HK i0 i1 i2 i3 i4 i5 b1
        gi_wp2
        go_roundw
        case rel => exact ⟨k + 1, by have := HX.out; omega, by have := HX.out; rw [← HX.out]; congr 1; omega, ⟨by rw [HS.out]; exact HJ3.out⟩, HK3⟩
        case measure => simp [intOf]; omega
      · have HJ3 := Aside0.mk hJx3
        clear hJx3 HJ HK i0 i1 i2 i3 i4 i5 b1
        gi_wp2
        refine bodyPost_ret (results_none rfl _ _ _) rfl ?_
        exact ⟨⟨_, rfl⟩, .inr ⟨_, ⟨k + 1, by have := HX.out; omega, HS.out.symm⟩, HJ3.out⟩⟩
    · have hkl : k = code.length := by omega
      have HKL := Aside0.mk hkl
      clear hkl
      rw [hx]
      clear hx
      gi_wp2
      go_end0
      exact ⟨⟨_, rfl⟩, .inl (by have := HJ.out; rw [HKL.out] at this; exact this)⟩
theorem backward_in (n : Nat) (A : Option Addr) (len c : Nat) (w : World) :
    CallsIn Fence.wide n Try.prog 94 #[.slice A len c] w fun e w' => e = .returned (.func (.func 110) #[] #[.pointer (some ⟨w.heap.size, 0, none⟩)]) ∧ w.alloc (.cells #[.slice A len c] 47) = w' := by
  refine callsIn_of_wp Try.func94 rfl trivial ?_ rfl
  simp only [Try.ntmps94, List.size_toArray, List.length_cons, List.length_nil, Nat.reduceAdd, Nat.reduceSub, Array.replicate_succ, Array.replicate_zero, List.push_toArray, List.append_toArray, List.nil_append, List.cons_append]
  gi_wp2
  go_ret
  exact ⟨rfl, rfl⟩
theorem back_stops (n bx : Nat) (A : Option Addr) (c : Nat) (code : List S51) (p : S51 → Prop) (w0 w : World) (hn : 1 ≤ n) (hr : Kd.C k51 w0 A code.length code) (hcp : code.length ≤ c) (hm : code.length ≤ 1000000) (hp : ∀ i ∈ code, p i) (hB : Below w0.heap.size w0 w)
    (hBs : w.heap[bx]? = some (.cells #[.slice A code.length c] 47 (0, 0))) :
    SeqStopsK Fence.wide n Try.prog 110 #[.pointer (some ⟨bx, 0, none⟩)] (fun x : { x : Int × S51 // p x.2 } => encB x.1) (KB w0.heap.size bx) (fun ys => ys.map (·.1) = seqB code code.length) (fun _ => True) code.length w := fun l J Jx W hW _ _ hY h0 => by
  refine (back1_in n l bx A c code w0 hn hr hcp hm p hp (fun ys W => ∃ xs : List { x : Int × S51 // p x.2 }, xs.map (·.1) = ys ∧ J xs W) (fun ys W => ∃ xs : List { x : Int × S51 // p x.2 }, xs.map (·.1) = ys ∧ Jx xs W) ?_ W (hB.trans (hW.mono hB.size)) (blk_below hBs hW) ⟨[], rfl, h0⟩).mono ?_
  · rintro pre x W1 hx ⟨xs, rfl, hJ⟩ hl
    obtain ⟨fn, tmps, assign, body, hy, hR⟩ := hY xs ⟨x, hx⟩ W1 hJ (by simpa using hl)
    refine ⟨fn, tmps, assign, body, hy, hR.mono ?_⟩
    rintro e W' (⟨he, hj, hk⟩ | ⟨he, hj⟩)
    · exact .inl ⟨he, ⟨_, by simp, hj⟩, hk⟩
    · exact .inr ⟨he, ⟨_, by simp, hj⟩⟩
  · rintro e W' ⟨he, ⟨ys, rfl, xs, hxs, hj⟩ | ⟨pre, _, xs, _, hj⟩⟩
    · exact ⟨he, .inl ⟨xs, hxs, hj⟩⟩
    · exact ⟨he, .inr ⟨xs, trivial, hj⟩⟩
end Go.Proofs.Ytadaopfcgpfiiaa
namespace Go.Proofs.Ytadaopfcgpfiiaa
open Go.RowKit Go.Proofs.YtadaopfcgpfiiaaW.PrintWords Go.Proofs.YtadaopfcgpfiiaaW.PrintLast Go.Proofs.YtadaopfcgpfiiaaW.PrintMore PCg
set_option linter.unusedVariables false
set_option linter.unusedSimpArgs false
def zc (x : Int) : Nat := ((List.range 64).filter fun i => !(bw x).getLsbD i).length
theorem zc_le (x : Int) : zc x ≤ 64 := by
  unfold zc
  refine Nat.le_trans (List.length_filter_le _ _) ?_
  simp
theorem bwLe_bit {x y : Int} (h : bwLe x y) {i : Nat} (hb : (bw x).getLsbD i = true) : (bw y).getLsbD i = true := by
  unfold bwLe at h
  rw [← h, BitVec.getLsbD_or, hb]
  rfl
theorem zc_mono {x y : Int} (h : bwLe x y) : zc y ≤ zc x := by
  unfold zc
  have key : ∀ l : List Nat, (l.filter fun i => !(bw y).getLsbD i).length ≤ (l.filter fun i => !(bw x).getLsbD i).length := by
    intro l
    induction l with
    | nil => simp
    | cons a l ih =>
      simp only [List.filter_cons]
      have hm := bwLe_bit h (i := a)
      cases hx : (bw x).getLsbD a <;> cases hy : (bw y).getLsbD a
      · simp; exact ih
      · simp; omega
      · rw [hm hx] at hy; cases hy
      · simp; exact ih
  exact key _
theorem zc_lt {x y : Int} (h : bwLe x y) (hx : CanW x) (hy : CanW y) (hne : x ≠ y) : zc y < zc x := by
  have hb : ∃ i, i < 64 ∧ (bw y).getLsbD i = true ∧ (bw x).getLsbD i = false := by
    by_cases hex : ∃ i, i < 64 ∧ (bw y).getLsbD i = true ∧ (bw x).getLsbD i = false
    · exact hex
    · exfalso
      apply hne
      have : bw x = bw y := by
        apply BitVec.eq_of_getLsbD_eq
        intro i hi
        cases e1 : (bw x).getLsbD i <;> cases e2 : (bw y).getLsbD i
        · rfl
        · exact absurd ⟨i, hi, e2, e1⟩ hex
        · rw [bwLe_bit h e1] at e2; cases e2
        · rfl
      rw [← canW_bw hx, ← canW_bw hy, this]
  obtain ⟨i, hi, e1, e2⟩ := hb
  unfold zc
  exact filter_lt (fun i => !(bw x).getLsbD i) (fun i => !(bw y).getLsbD i) (fun j hj => by
    cases e : (bw x).getLsbD j with
    | false => rfl
    | true => rw [bwLe_bit h e] at hj; cases hj) i (by simp [e2]) (by simp [e1]) _ (List.mem_range.2 hi)
def zsum (s : List Int) : Nat := (s.map zc).sum
theorem zsum_le64 (s : List Int) : zsum s ≤ 64 * s.length := by
  induction s with
  | nil => simp [zsum]
  | cons x s ih => have := zc_le x; simp only [zsum, List.map_cons, List.sum_cons, List.length_cons] at *; omega
theorem zsum_le : ∀ s t : List Int, sLe s t → zsum t ≤ zsum s := by
  intro s
  induction s with
  | nil => intro t h; have : t = [] := List.eq_nil_of_length_eq_zero h.1.symm; subst this; exact Nat.le_refl _
  | cons x s ih =>
    intro t h
    cases t with
    | nil => have := h.1; simp at this
    | cons y t =>
      obtain ⟨h1, h2⟩ := sLe_cons h
      have h3 := ih t h2
      have h4 := zc_mono h1
      simp only [zsum, List.map_cons, List.sum_cons] at *
      omega
theorem zsum_lt : ∀ s t : List Int, sLe s t → Canon s → Canon t → s ≠ t → zsum t < zsum s := by
  intro s
  induction s with
  | nil => intro t h _ _ hne; have : t = [] := List.eq_nil_of_length_eq_zero h.1.symm; exact absurd this.symm hne
  | cons x s ih =>
    intro t h hs ht hne
    cases t with
    | nil => have := h.1; simp at this
    | cons y t =>
      obtain ⟨h1, h2⟩ := sLe_cons h
      by_cases e : x = y
      · subst e
        have h3 := ih t h2 (fun q hq => hs q (List.mem_cons_of_mem _ hq)) (fun q hq => ht q (List.mem_cons_of_mem _ hq)) (fun e => hne (by rw [e]))
        simp only [zsum, List.map_cons, List.sum_cons] at *
        omega
      · have h3 := zsum_le s t h2
        have h4 := zc_lt h1 (hs x (List.mem_cons_self ..)) (ht y (List.mem_cons_self ..)) e
        simp only [zsum, List.map_cons, List.sum_cons] at *
        omega
def upd {α : Type} (f : Nat → α) (b : Nat) (x : α) : Nat → α := fun i => if i = b then x else f i
theorem upd_same {α : Type} (f : Nat → α) (b : Nat) (x : α) : upd f b x b = x := if_pos rfl
theorem upd_ne {α : Type} (f : Nat → α) {b i : Nat} (x : α) (h : i ≠ b) : upd f b x i = f i := if_neg h
def sumZ (ins : Nat → List Int) : Nat → Nat
  | 0 => 0
  | n + 1 => sumZ ins n + zsum (ins n)
theorem sumZ_le {ins : Nat → List Int} {L : Nat} : ∀ n, (∀ i, i < n → (ins i).length = L) → sumZ ins n ≤ n * (64 * L) := by
  intro n
  induction n with
  | zero => intro _; simp [sumZ]
  | succ n ih =>
    intro h
    have h1 := ih (fun i hi => h i (by omega))
    have h2 := zsum_le64 (ins n)
    rw [h n (by omega)] at h2
    rw [sumZ, Nat.succ_mul]
    omega
theorem sumZ_ext {ins ins' : Nat → List Int} : ∀ n, (∀ i, i < n → ins' i = ins i) → sumZ ins' n = sumZ ins n := by
  intro n
  induction n with
  | zero => intro _; rfl
  | succ n ih => intro h; rw [sumZ, sumZ, ih (fun i hi => h i (by omega)), h n (by omega)]
theorem sumZ_upd {ins : Nat → List Int} {s : List Int} {b : Nat} : ∀ n, b < n → sumZ (upd ins b s) n + zsum (ins b) = sumZ ins n + zsum s := by
  intro n
  induction n with
  | zero => intro h; omega
  | succ n ih =>
    intro h
    rw [sumZ, sumZ]
    by_cases e : b = n
    · subst e
      rw [upd_same, sumZ_ext (ins := ins) (ins' := upd ins b s) b (fun i hi => upd_ne _ _ (by omega))]
      omega
    · rw [upd_ne _ _ (fun h => e h.symm)]
      have := ih (by omega)
      omega
/-- the work that is left -/
def solveM (n : Nat) (ins : Nat → List Int) (work : List Int) : Nat := sumZ ins n * (2 * n + 1) + work.length
theorem solveM_change {n b : Nat} {ins : Nat → List Int} {s : List Int} {work prev : List Int} (hb : b < n) (hs : zsum s < zsum (ins b)) (hp : prev.length ≤ 2 * n) (x : Int) :
    solveM n (upd ins b s) (work ++ prev) < solveM n ins (work ++ [x]) := by
  have h1 := sumZ_upd (ins := ins) (s := s) n hb
  have h2 : sumZ (upd ins b s) n + 1 ≤ sumZ ins n := by omega
  have h3 : (sumZ (upd ins b s) n + 1) * (2 * n + 1) ≤ sumZ ins n * (2 * n + 1) := Nat.mul_le_mul_right _ h2
  rw [Nat.succ_mul] at h3
  unfold solveM
  simp only [List.length_append, List.length_singleton]
  omega
/-- what the solver's sets keep -/
structure SInv (regs : Int) (L n : Nat) (blks : List S49) (ins outs prevs : Nat → List Int) (work : List Int) : Prop where
  ilen : ∀ i, i < n → (ins i).length = L
  olen : ∀ i, i < n → (outs i).length = L
  ican : ∀ i, i < n → Canon (ins i)
  ocan : ∀ i, i < n → Canon (outs i)
  ibnd : ∀ i, i < n → Bnd regs (ins i)
  obnd : ∀ i, i < n → Bnd regs (outs i)
  le : ∀ i, i < n → sLe (ins i) (liveB (rd_T49 blks i) (outs i))
  prev : ∀ i, i < n → (prevs i).length ≤ 2 * n ∧ ∀ x ∈ prevs i, 0 ≤ x ∧ x < n
  work : ∀ x ∈ work, 0 ≤ x ∧ x < n
section
variable {regs : Int} {L n : Nat} {blks : List S49} {ins outs prevs : Nat → List Int} {work : List Int}
/-- a set has been joined to the ones at a block's end -/
theorem SInv.join (h : SInv regs L n blks ins outs prevs work) (hr : regs ≤ 64 * (L : Int)) (hw : ∀ i : Nat, i < n → BlkWf regs n (rd_T49 blks i)) {b t : Nat} (hb : b < n) (ht : t < n) : SInv regs L n blks ins (upd outs b (joinL (outs b) (ins t))) prevs work := by
  obtain ⟨h1, h2, h3, h4, h5, h6, h7, h8, h9⟩ := h
  have key : ∀ {p : List Int → Prop}, (∀ i, i < n → p (outs i)) → p (joinL (outs b) (ins t)) → ∀ i, i < n → p (upd outs b (joinL (outs b) (ins t)) i) := by
    intro p hp hj i hi
    by_cases e : i = b
    · subst e; rw [upd_same]; exact hj
    · rw [upd_ne _ _ e]; exact hp i hi
  refine ⟨h1, key (p := fun s => s.length = L) h2 (by rw [joinL_len]; exact h2 b hb), h3, key (p := Canon) h4 ((h4 b hb).join _), h5, key (p := Bnd regs) h6 ((h6 b hb).join (h5 t ht)), fun i hi => ?_, h8, h9⟩
  by_cases e : i = b
  · subst e
    rw [upd_same]
    exact (h7 i hi).trans (liveB_mono (hw i hi) (by rw [h2 i hi]; exact hr) (joinL_le _ _))
  · rw [upd_ne _ _ e]; exact h7 i hi
theorem SInv.pop (h : SInv regs L n blks ins outs prevs work) {w2 : List Int} (hs : ∀ x ∈ w2, x ∈ work) : SInv regs L n blks ins outs prevs w2 :=
  ⟨h.ilen, h.olen, h.ican, h.ocan, h.ibnd, h.obnd, h.le, h.prev, fun x hx => h.work x (hs x hx)⟩
/-- a block's set has changed -/
theorem SInv.change (h : SInv regs L n blks ins outs prevs work) (hw : ∀ i : Nat, i < n → BlkWf regs n (rd_T49 blks i)) {b : Nat} (hb : b < n) : SInv regs L n blks (upd ins b (liveB (rd_T49 blks b) (outs b))) outs prevs (work ++ prevs b) := by
  obtain ⟨h1, h2, h3, h4, h5, h6, h7, h8, h9⟩ := h
  have key : ∀ {p : List Int → Prop}, (∀ i, i < n → p (ins i)) → p (liveB (rd_T49 blks b) (outs b)) → ∀ i, i < n → p (upd ins b (liveB (rd_T49 blks b) (outs b)) i) := by
    intro p hp hj i hi
    by_cases e : i = b
    · subst e; rw [upd_same]; exact hj
    · rw [upd_ne _ _ e]; exact hp i hi
  refine ⟨key (p := fun s => s.length = L) h1 (by rw [liveB_len]; exact h2 b hb), h2, key (p := Canon) h3 (liveB_canon _ (h4 b hb)), h4, key (p := Bnd regs) h5 (liveB_bnd (hw b hb) (h6 b hb)), h6, fun i hi => ?_, h8, fun x hx => ?_⟩
  · by_cases e : i = b
    · subst e; rw [upd_same]; exact sLe.refl _
    · rw [upd_ne _ _ e]; exact h7 i hi
  · rcases List.mem_append.1 hx with hx | hx
    · exact h9 x hx
    · exact (h8 b hb).2 x hx
theorem SInv.bound (h : SInv regs L n blks ins outs prevs work) (hn : n ≤ 10000) (hL : L ≤ 157) : sumZ ins n ≤ 10000 * 10048 := by
  refine Nat.le_trans (sumZ_le n h.ilen) ?_
  exact Nat.mul_le_mul hn (by omega)
end
end Go.Proofs.Ytadaopfcgpfiiaa
namespace Go.Proofs.Ytadaopfcgpfiiaa
open Go.RowKit Go.Proofs.YtadaopfcgpfiiaaW.PrintWords Go.Proofs.YtadaopfcgpfiiaaW.PrintLast Go.Proofs.YtadaopfcgpfiiaaW.PrintMore PCg
set_option linter.unusedVariables false
set_option linter.unusedSimpArgs false
/-- the keys of a map's entries are ks -/
def Keyed (es : Array MapEntry) (ks : List Int) : Prop := es.toList.map (·.key) = ks.map (Value.int .i64)
/-- block mb of w is a map whose keys are ks -/
def MSet (w : World) (mb : Nat) (ks : List Int) : Prop :=
  ∃ es clock, w.heap[mb]? = some (.map es clock) ∧ MapKept.Stamped es clock ∧ Keyed es ks
def insK (k : Int) (ks : List Int) : List Int := if k ∈ ks then ks else ks ++ [k]
theorem insK_mem {k j : Int} {ks : List Int} : j ∈ insK k ks ↔ j = k ∨ j ∈ ks := by
  unfold insK
  split
  · constructor
    · exact fun h => .inr h
    · rintro (rfl | h)
      · assumption
      · exact h
  · simp [or_comm]
/-- .. and an entry of it has the stamp b -/
def MSetB (w : World) (mb : Nat) (ks : List Int) (b : Nat) : Prop :=
  ∃ es clock, w.heap[mb]? = some (.map es clock) ∧ MapKept.Stamped es clock ∧ Keyed es ks ∧ ∃ e ∈ es.toList, e.born = b
theorem MSet.kept {w w1 : World} {mb : Nat} {ks : List Int} (h : MSet w mb ks) (hk : w1.heap[mb]? = w.heap[mb]?) : MSet w1 mb ks := by
  obtain ⟨es, c, hb, h⟩ := h
  exact ⟨es, c, hk.trans hb, h⟩
theorem MSet.lt {w : World} {mb : Nat} {ks : List Int} (h : MSet w mb ks) : mb < w.heap.size := by
  obtain ⟨es, c, hb, h⟩ := h
  exact blk_lt hb
theorem keyed_isKey {es : Array MapEntry} {ks : List Int} (h : Keyed es ks) : ∀ x ∈ es.toList, MapKept.IsKey (.int .i64) x.key := by
  intro x hx
  have : x.key ∈ es.toList.map (·.key) := List.mem_map.2 ⟨x, hx, rfl⟩
  rw [h] at this
  obtain ⟨k, _, e⟩ := List.mem_map.1 this
  rw [← e]
  exact rfl
theorem keyed_mem {es : Array MapEntry} {ks : List Int} (h : Keyed es ks) (k : Int) : k ∈ ks ↔ ∃ e ∈ es.toList, e.key = .int .i64 k := by
  constructor
  · intro hk
    have : Value.int .i64 k ∈ es.toList.map (·.key) := by rw [h]; exact List.mem_map.2 ⟨k, hk, rfl⟩
    obtain ⟨e, he, hek⟩ := List.mem_map.1 this
    exact ⟨e, he, hek⟩
  · rintro ⟨e, he, hek⟩
    have : e.key ∈ ks.map (Value.int .i64) := by rw [← h]; exact List.mem_map.2 ⟨e, he, rfl⟩
    rw [hek] at this
    obtain ⟨k', hk', e'⟩ := List.mem_map.1 this
    injection e' with _ e'
    exact e' ▸ hk'
theorem mset_grown (w : World) (mb : Nat) (o : Obj) {o' : Obj} (h : w.heap[mb]? = some o') : w.grownBy { w with heap := w.heap.setIfInBounds mb o } (some mb) :=
  ⟨rfl, rfl, rfl, by simp, fun k hk hne => (MapKept.heap_set h).2 k (fun e => hne (by rw [e]))⟩
theorem zeroBool (w : World) : (zeroValue 4).run Try.prog w = .ok (.bool false) w := by kernel_rfl
/-- m[k] = .., the first half: the entry is there -/
theorem mset_entry {w : World} {mb : Nat} {ks : List Int} (h : MSet w mb ks) (k : Int) :
    ∃ v b w1, (Instr.mapEntry 169 (.map (some mb)) (.int .i64 k)).run Try.prog w = .ok (.tuple #[v, .int .i64 ((b : Nat) : Int)]) w1 ∧ MSetB w1 mb (insK k ks) b ∧ w.grownBy w1 (some mb) := by
  obtain ⟨es, c, hb, hs, hkd⟩ := h
  have hks := keyed_isKey hkd
  have hk : MapKept.IsKey (.int .i64) (.int .i64 k) := rfl
  rcases MapKept.findNow_spec hk es.toList 0 hks with ⟨h1, h2⟩ | ⟨j, e, h1, h2, h3⟩
  · have hn : k ∉ ks := fun hm => by
      obtain ⟨e, he, hek⟩ := (keyed_mem hkd k).1 hm
      exact h2 e he hek
    refine ⟨.bool false, c, _, ?_, ⟨_, _, (MapKept.heap_set hb).1, MapKept.stamped_push hs h2, ?_, ⟨{ key := .int .i64 k, val := .bool false, born := c }, Array.mem_toList_iff.2 Array.mem_push_self, rfl⟩⟩, mset_grown w mb _ hb⟩
    · simp only [Instr.mapEntry, Sem.run_bind, run_underlying Try.underlying169, MapKept.run_getObj_map hb, MapKept.run_checkKey Try.underlying3 hk, MapKept.run_findKey Try.underlying3 h1, Result.andThen, zeroBool, MapKept.run_setObj_map _ hb, Sem.run_pure]
      rfl
    · rw [insK, if_neg hn]
      unfold Keyed at *
      simp [hkd]
  · have hj : es[j]? = some e := by simpa using h2
    have hm : k ∈ ks := (keyed_mem hkd k).2 ⟨e, List.mem_of_getElem? h2, h3⟩
    have hkey : ∀ e', es[j]? = some e' → ({ e' with key := .int .i64 k } : MapEntry).key = e'.key := fun e' he' => by rw [hj] at he'; cases he'; exact h3.symm
    have hjl : j < es.size := (Array.getElem?_eq_some_iff.1 hj).1
    refine ⟨e.val, e.born, _, ?_, ⟨_, _, (MapKept.heap_set hb).1, MapKept.stamped_modify hs j (fun e => { e with key := .int .i64 k }) (fun _ _ => rfl) (fun e' _ he' => hkey e' he'), ?_, ⟨{ e with key := .int .i64 k }, ?_, rfl⟩⟩, mset_grown w mb _ hb⟩
    · have hkk := MapKept.run_keyThatStays (P := Try.prog) (w := w) hk
      simp [Instr.mapEntry, run_underlying Try.underlying169, MapKept.run_getObj_map hb, MapKept.run_checkKey Try.underlying3 hk, MapKept.run_findKey Try.underlying3 h1, hj, h3, hkk, MapKept.run_setObj_map _ hb, Result.andThen, goInt]
    · rw [insK, if_pos hm]
      unfold Keyed at *
      rw [MapKept.modify_keys j _ hkey]
      exact hkd
    · rw [Array.mem_toList_iff]
      refine Array.mem_of_getElem? (i := j) ?_
      rw [Array.getElem?_modify]
      simp [hj]
/-- m[k] = true, the second half -/
theorem mset_store {w : World} {mb b : Nat} {ks : List Int} (h : MSetB w mb ks b) (v : Value) :
    ∃ w1, (Instr.entryStore 169 (.map (some mb)) (.int .i64 ((b : Nat) : Int)) v).run Try.prog w = .ok () w1 ∧ MSet w1 mb ks ∧ w.grownBy w1 (some mb) := by
  obtain ⟨es, c, hb, hs, hkd, e, he, heb⟩ := h
  have hf : ∃ i, es.findIdx? (fun e => (e.born : Int) == (b : Int)) = some i := by
    cases hc : es.findIdx? (fun e => (e.born : Int) == (b : Int)) with
    | some i => exact ⟨i, rfl⟩
    | none =>
      rw [Array.findIdx?_eq_none_iff] at hc
      have := hc e (Array.mem_toList_iff.1 he)
      simp [heb] at this
  obtain ⟨i, hi⟩ := hf
  refine ⟨_, ?_, ⟨_, _, (MapKept.heap_set hb).1, MapKept.stamped_modify hs i (fun e => { e with val := v }) (fun _ _ => rfl) (fun _ _ _ => rfl), ?_⟩, mset_grown w mb _ hb⟩
  · have ha : (asInt (.int .i64 (b : Int))).run Try.prog w = .ok (b : Int) w := by simp [asInt, asIntOf]
    simp only [Instr.entryStore, Sem.run_bind, MapKept.run_getObj_map hb, Result.andThen, ha, hi, MapKept.run_setObj_map _ hb]
  · unfold Keyed at *
    rw [MapKept.modify_keys i (fun e => { e with val := v }) (fun _ _ => rfl)]
    exact hkd
theorem mset_made (w : World) : MSet (w.alloc (.map #[] 0)) w.heap.size [] := ⟨#[], 0, (MapKept.heap_alloc w _).1, MapKept.stamped_empty 0, rfl⟩
/-- an iterator over the map in block mb, in block ib: the keys done have been handed out, the last one last -/
def MIter (w : World) (ib mb : Nat) (ks done : List Int) : Prop :=
  mb ≠ ib ∧ ∃ es clock since seen c0, w.heap[mb]? = some (.map es clock) ∧ MapKept.Stamped es clock ∧ Keyed es ks ∧ w.heap[ib]? = some (.mapIter (some mb) since seen c0) ∧
    (∀ x ∈ es.toList, x.born < since) ∧ since ≤ c0 ∧ since ≤ clock ∧ (∀ e ∈ es.toList, ∀ k, e.key = .int .i64 k → (seen.contains e.born = true ↔ k ∈ done)) ∧ (∀ k ∈ done, k ∈ ks) ∧ done.Nodup
theorem MIter.kept {w w1 : World} {ib mb : Nat} {ks done : List Int} (h : MIter w ib mb ks done) (h1 : w1.heap[mb]? = w.heap[mb]?) (h2 : w1.heap[ib]? = w.heap[ib]?) : MIter w1 ib mb ks done := by
  obtain ⟨hne, es, c, since, seen, c0, hm, hs, hk, hi, hr⟩ := h
  exact ⟨hne, es, c, since, seen, c0, h1.trans hm, hs, hk, h2.trans hi, hr⟩
theorem mset_range {w : World} {mb : Nat} {ks : List Int} (h : MSet w mb ks) :
    ∃ w1, (Instr.range 169 (.map (some mb))).run Try.prog w = .ok (.pointer (some ⟨w.heap.size, 0, none⟩)) w1 ∧ MIter w1 w.heap.size mb ks [] ∧ Below w.heap.size w w1 ∧ w1.heap.size = w.heap.size + 1 := by
  obtain ⟨es, c, hb, hs, hkd⟩ := h
  have hlt := blk_lt hb
  refine ⟨_, run_range_map w 169 3 4 mb es c Try.underlying169 hb, ⟨by omega, es, c, c, #[], c, ?_, hs, hkd, heap_alloc_new w _, hs.1, Nat.le_refl _, Nat.le_refl _, ?_, by simp, by simp⟩, (Below.refl _ _).alloc (Nat.le_refl _) _, by simp⟩
  · rw [heap_alloc_old w _ hlt]; exact hb
  · intro e he k hk; simp
theorem run_getObj_iter {w : World} {ib : Nat} {m : Option Nat} {a : Nat} {s : Array Nat} {b : Nat} (h : w.heap[ib]? = some (.mapIter m a s b)) : (getObj ib).run Try.prog w = .ok (.mapIter m a s b) w := by simp [getObj, Sem.run, h]
theorem miter_next {w : World} {ib mb : Nat} {ks done : List Int} (h : MIter w ib mb ks done) (t : TypeId) :
    ((∀ k ∈ ks, k ∈ done) ∧ (Instr.next (.pointer (some ⟨ib, 0, none⟩)) false t).run Try.prog w = .ok (.tuple #[.bool false]) w) ∨
    ∃ k v w1, k ∈ ks ∧ k ∉ done ∧ (Instr.next (.pointer (some ⟨ib, 0, none⟩)) false t).run Try.prog w = .ok (.tuple #[.bool true, .int .i64 k, v]) w1 ∧
      (Instr.entry (.pointer (some ⟨ib, 0, none⟩))).run Try.prog w1 = .ok (.tuple #[.int .i64 k, v]) w1 ∧ MIter w1 ib mb ks (k :: done) ∧ w.grownBy w1 (some ib) ∧ w1.heap.size = w.heap.size := by
  obtain ⟨hne, es, c, since, seen, c0, hm, hs, hkd, hi, hold, hsc, hsc2, hseen, hdk, hdn⟩ := h
  have hgi : (getObj ib).run Try.prog w = .ok (.mapIter (some mb) since seen c0) w := by simp [getObj, Sem.run, hi]
  simp only [Instr.next, Sem.run_bind, hgi, MapKept.run_getObj_map hm, Result.andThen, next_test_false seen es since c0 hold hsc, Bool.false_eq_true, if_false]
  have hL : ∀ e, e ∈ (Array.filter (fun e => !seen.contains e.born) es).toList ↔ e ∈ es.toList ∧ seen.contains e.born = false := by
    intro e
    simp
  have hmem : ∀ x ∈ (Array.filter (fun e => !seen.contains e.born) es).toList, x.born < since := fun x hx => hold x ((hL x).1 hx).1
  generalize Array.filter (fun e => !seen.contains e.born) es = L at hmem hL ⊢
  have e1 : L.filter (fun x => decide (x.born < since)) = L := Array.filter_eq_self.2 (fun x hx => by simpa using hmem x (by simpa using hx))
  have e2 : L.filter (fun x => decide (x.born ≥ since)) = #[] := by
    rw [Array.filter_eq_empty_iff]
    intro x hx
    have := hmem x (by simpa using hx)
    simp
    omega
  simp only [e1, e2, Array.append_empty]
  by_cases h0 : L.size = 0
  · left
    have : L = #[] := Array.eq_empty_of_size_eq_zero h0
    subst this
    refine ⟨fun k hk => ?_, by simp [choose, Sem.run, Question.forced]⟩
    obtain ⟨e, he, hek⟩ := (keyed_mem hkd k).1 hk
    refine (hseen e he k hek).1 ?_
    cases hc : seen.contains e.born with
    | true => rfl
    | false => have := (hL e).2 ⟨he, hc⟩; simp at this
  · right
    have hnE : L.isEmpty = false := by simp [Array.isEmpty, h0]
    simp only [hnE, Bool.false_eq_true, if_false, Array.empty_append, Array.size_map]
    have hch : ∃ (j : Nat) (w1 : World), j < L.size ∧ w.grownBy w1 none ∧ w1.heap = w.heap ∧ (choose (Question.mapNext L.size)).run Try.prog w = .ok j w1 := by
      by_cases hf : L.size ≤ 1
      · exact ⟨0, w, by omega, World.grownBy.refl w none, rfl, by simp [choose, Sem.run, Question.forced, hf]⟩
      · exact ⟨_, w.drew, Nat.mod_lt _ (by omega), ⟨rfl, rfl, rfl, Nat.le_refl _, fun _ _ _ => rfl⟩, rfl, by
          simp only [choose, Sem.run, Question.forced, decide_eq_true_eq, hf, if_false, Question.cut]
          rfl⟩
    obtain ⟨j, w1, hj, hal, hheap, hrun⟩ := hch
    obtain ⟨he, hes⟩ := (hL L[j]).1 (by simp)
    have hkj := keyed_isKey hkd L[j] he
    obtain ⟨k, hk⟩ : ∃ k, L[j].key = .int .i64 k := by
      revert hkj
      cases L[j].key <;> simp [MapKept.IsKey]
    have hi1 : w1.heap[ib]? = some (.mapIter (some mb) since seen c0) := by rw [hheap]; exact hi
    have hset : (setObj ib (.mapIter (some mb) since (seen.push L[j].born) c)).run Try.prog w1 = .ok () { w1 with heap := w1.heap.setIfInBounds ib (.mapIter (some mb) since (seen.push L[j].born) c) } := by simp [setObj, Sem.run, hi1]
    have hib : ({ w1 with heap := w1.heap.setIfInBounds ib (.mapIter (some mb) since (seen.push L[j].born) c) } : World).heap[ib]? = some (.mapIter (some mb) since (seen.push L[j].born) c) := (MapKept.heap_set hi1).1
    have hmb : ({ w1 with heap := w1.heap.setIfInBounds ib (.mapIter (some mb) since (seen.push L[j].born) c) } : World).heap[mb]? = some (.map es c) := ((MapKept.heap_set hi1).2 mb hne).trans (by rw [hheap]; exact hm)
    have hg : w.grownBy { w1 with heap := w1.heap.setIfInBounds ib (.mapIter (some mb) since (seen.push L[j].born) c) } (some ib) :=
      ⟨hal.os, hal.tape, hal.output, by simp [hheap], fun k _ hkn => ((MapKept.heap_set hi1).2 k (fun e => hkn (by rw [e]))).trans (by rw [hheap])⟩
    have hsz : ({ w1 with heap := w1.heap.setIfInBounds ib (.mapIter (some mb) since (seen.push L[j].born) c) } : World).heap.size = w.heap.size := by simp [hheap]
    refine ⟨k, L[j].val, _, (keyed_mem hkd k).2 ⟨L[j], he, hk⟩, fun hd => ?_, ?_, ?_, ⟨hne, es, c, since, _, c, hmb, hs, hkd, hib, hold, hsc2, hsc2, ?_, ?_, ?_⟩, hg, hsz⟩
    · have := (hseen _ he k hk).2 hd
      rw [hes] at this
      cases this
    · simp only [hrun, Array.getElem?_map, Array.getElem?_eq_getElem hj, Option.map_some, Sem.run_bind, hset, Result.andThen, Sem.run_pure, hk]
    · have hf : es.find? (·.born == L[j].born) = some L[j] := by rw [← Array.find?_toList]; exact find_born L[j] es.toList hs.2.1 he
      have hgi2 := run_getObj_iter hib
      simp only [Instr.entry, Sem.run_bind, hgi2, MapKept.run_getObj_map hmb, Result.andThen, Array.back?_push, bne_self_eq_false, Bool.false_eq_true, if_false, hf, hk]
      rfl
    · intro e he' k' hk'
      rw [Array.contains_push]
      have h1 := hseen e he' k' hk'
      have hinj : e.born = L[j].born → e = L[j] := fun hbn => by
        have ha := find_born e es.toList hs.2.1 he'
        have hb' := find_born L[j] es.toList hs.2.1 he
        rw [hbn] at ha
        rw [ha] at hb'
        injection hb'
      have hinj2 : e.key = L[j].key → e = L[j] := fun hbn => by
        have hp := ((MapKept.stamped_iff es c).1 hs).2.2
        obtain ⟨a, ha, hae⟩ := List.getElem_of_mem he'
        obtain ⟨b, hb2, hbe⟩ := List.getElem_of_mem he
        rcases Nat.lt_trichotomy a b with hlt | heq | hlt
        · exact absurd (by rw [hae, hbe]; exact hbn) (List.pairwise_iff_getElem.1 hp a b ha hb2 hlt)
        · subst heq; rw [← hae, ← hbe]
        · exact absurd (by rw [hae, hbe]; exact hbn.symm) (List.pairwise_iff_getElem.1 hp b a hb2 ha hlt)
      rw [Bool.or_eq_true, beq_iff_eq]
      constructor
      · rintro (h2 | h2)
        rotate_left
        · have hq := hinj h2
          rw [hq, hk] at hk'
          injection hk' with _ hk'
          rw [← hk']
          exact List.mem_cons_self ..
        · exact List.mem_cons_of_mem _ (h1.1 h2)
      · intro h2
        rcases List.mem_cons.1 h2 with h2 | h2
        · right
          rw [hinj2 (by rw [hk', hk, h2])]
        · left
          exact h1.2 h2
    · intro k' hk'
      rcases List.mem_cons.1 hk' with rfl | h2
      · exact (keyed_mem hkd _).2 ⟨L[j], he, hk⟩
      · exact hdk k' h2
    · refine List.nodup_cons.2 ⟨fun hd => ?_, hdn⟩
      have := (hseen _ he k hk).2 hd
      rw [hes] at this
      cases this
end Go.Proofs.Ytadaopfcgpfiiaa
namespace Go.Proofs.Ytadaopfcgpfiiaa
open Go.RowKit Go.Proofs.YtadaopfcgpfiiaaW.PrintWords Go.Proofs.YtadaopfcgpfiiaaW.PrintLast Go.Proofs.YtadaopfcgpfiiaaW.PrintMore PCg
set_option linter.unusedVariables false
set_option linter.unusedSimpArgs false
/-- block g of w is a row of n cells, the first k of which are maps: the i-th lies in block mb i, its keys K i are nodes other than i -/
structure Adj (w : World) (base g n k : Nat) (mb : Nat → Nat) (K : Nat → List Int) : Prop where
  row : ∃ cells : Array Value, w.heap[g]? = some (.cells cells 169 (0, 0)) ∧ cells.size = n ∧ ∀ i, i < k → cells[i]? = some (.map (some (mb i)))
  base : base ≤ g
  le : k ≤ n
  mbase : ∀ i, i < k → g < mb i
  inj : ∀ i j, i < k → j < k → mb i = mb j → i = j
  maps : ∀ i, i < k → MSet w (mb i) (K i)
  keys : ∀ i, i < k → ∀ x ∈ K i, 0 ≤ x ∧ x < n ∧ x ≠ i
section
variable {w w1 : World} {base g n k : Nat} {mb : Nat → Nat} {K : Nat → List Int}
theorem Adj.lt (h : Adj w base g n k mb K) : g < w.heap.size := by obtain ⟨c, hb, _⟩ := h.row; exact blk_lt hb
theorem Adj.step (h : Adj w base g n k mb K) (h1 : w1.heap[g]? = w.heap[g]?) (h2 : ∀ i, i < k → w1.heap[mb i]? = w.heap[mb i]?) : Adj w1 base g n k mb K := by
  obtain ⟨⟨c, hb, hr⟩, h3, h4, h5, h6, h7, h8⟩ := h
  exact ⟨⟨c, h1.trans hb, hr⟩, h3, h4, h5, h6, fun i hi => (h7 i hi).kept (h2 i hi), h8⟩
theorem Adj.below (h : Adj w base g n k mb K) (hb : Below w.heap.size w w1) : Adj w1 base g n k mb K :=
  h.step (hb.block g h.lt) (fun i hi => hb.block _ (h.maps i hi).lt)
theorem Adj.cell (h : Adj w base g n k mb K) {i : Nat} (hi : i < k) : w.cell? ⟨g, i, none⟩ = some (.map (some (mb i))) := by
  obtain ⟨c, hb, _, hc⟩ := h.row
  exact (blk_cell hb i).trans (hc i hi)
/-- a map of the row has been written -/
theorem Adj.wrote (h : Adj w base g n k mb K) {j : Nat} (hj : j < k) {w2 : World} {ks : List Int} (hg : w.grownBy w2 (some (mb j))) (hm : MSet w2 (mb j) ks) (hks : ∀ x ∈ ks, 0 ≤ x ∧ x < n ∧ x ≠ j) : Adj w2 base g n k mb (fun i => if i = j then ks else K i) := by
  have hlt := h.lt
  obtain ⟨⟨c, hb, hr⟩, h3, h4, h5, h6, h7, h8⟩ := h
  refine ⟨⟨c, (hg.block g hlt (fun e => by have := h5 j hj; injection e with e; omega)).trans hb, hr⟩, h3, h4, h5, h6, fun i hi => ?_, fun i hi => ?_⟩
  · by_cases e : i = j
    · subst e; simp only [if_true]; exact hm
    · simp only [if_neg e]
      exact (h7 i hi).kept (hg.block _ (h7 i hi).lt (fun e2 => e (h6 i j hi hj (by injection e2))))
  · by_cases e : i = j
    · subst e; simp only [if_true]; exact hks
    · simp only [if_neg e]; exact h8 i hi
/-- the next map has been made and stored -/
theorem Adj.more (h : Adj w base g n k mb K) (hk : k < n) : Adj ((w.alloc (.map #[] 0)).setCell ⟨g, k, none⟩ (.map (some w.heap.size))) base g n (k + 1) (fun i => if i = k then w.heap.size else mb i) (fun i => if i = k then [] else K i) := by
  have hlt := h.lt
  obtain ⟨⟨c, hb, hsz, hr⟩, h3, h4, h5, h6, h7, h8⟩ := h
  have hb1 : (w.alloc (.map #[] 0)).heap[g]? = some (.cells c 169 (0, 0)) := blk_alloc hb _
  have hset : ∀ b, b ≠ g → ((w.alloc (.map #[] 0)).setCell ⟨g, k, none⟩ (.map (some w.heap.size))).heap[b]? = (w.alloc (.map #[] 0)).heap[b]? := fun b hne => Below.heap_setCell _ _ _ b hne
  refine ⟨⟨c.setIfInBounds k (.map (some w.heap.size)), ?_, by simp [hsz], fun i hi => ?_⟩, h3, hk, fun i hi => ?_, fun i j hi hj e => ?_, fun i hi => ?_, fun i hi => ?_⟩
  · rw [World.setCell]
    simp only [Array.getElem?_modify, if_true, hb1, Option.map_some]
    rfl
  · rw [Array.getElem?_setIfInBounds]
    by_cases e : i = k
    · subst e; rw [if_pos rfl, if_pos (by omega), if_pos rfl]
    · rw [if_neg (fun h => e h.symm), if_neg e]; exact hr i (by omega)
  · by_cases e : i = k
    · rw [if_pos e]; exact hlt
    · rw [if_neg e]; exact h5 i (by omega)
  · by_cases e1 : i = k
    · by_cases e2 : j = k
      · omega
      · rw [if_pos e1, if_neg e2] at e
        have := (h7 j (by omega)).lt
        omega
    · by_cases e2 : j = k
      · rw [if_neg e1, if_pos e2] at e
        have := (h7 i (by omega)).lt
        omega
      · rw [if_neg e1, if_neg e2] at e
        exact h6 i j (by omega) (by omega) e
  · by_cases e : i = k
    · rw [if_pos e, if_pos e]
      exact (mset_made w).kept (hset _ (by omega))
    · rw [if_neg e, if_neg e]
      have hm := h7 i (by omega)
      exact hm.kept ((hset _ (by have := h5 i (by omega); omega)).trans ((below_alloc (Below.refl _ _) _).block _ hm.lt))
  · by_cases e : i = k
    · rw [if_pos e]; simp
    · rw [if_neg e]; exact h8 i (by omega)
end
theorem info169 : (Try.prog.info? 169).map (fun i => (i.zero, i.size, i.bytes)) = some (some (.map none), 1, 8) := by kernel_rfl
theorem adj_made (w : World) (n : Nat) (mb : Nat → Nat) (K : Nat → List Int) : Adj (w.alloc (.cells (madeCells #[.map none] n) 169)) w.heap.size w.heap.size n 0 mb K :=
  ⟨⟨madeCells #[.map none] n, blk_new w _, by simp [size_madeCells], fun i hi => by omega⟩, Nat.le_refl _, Nat.zero_le _, fun i hi => by omega, fun i j hi => by omega, fun i hi => by omega, fun i hi => by omega⟩
/-- out[i][k], out[k][i] = true, true -/
theorem adj_pair {w : World} {base g n : Nat} {mb : Nat → Nat} {K : Nat → List Int} (h : Adj w base g n n mb K) (i k : Nat) (hi : i < n) (hk : k < n) (hne : k ≠ i) :
    ∃ v1 b1 w1 w2 v2 b2 w3 w4, (Instr.mapEntry 169 (.map (some (mb i))) (.int .i64 (k : Int))).run Try.prog w = .ok (.tuple #[v1, b1]) w1 ∧ (Instr.entryStore 169 (.map (some (mb i))) b1 (.bool true)).run Try.prog w1 = .ok () w2 ∧
      (Instr.mapEntry 169 (.map (some (mb k))) (.int .i64 (i : Int))).run Try.prog w2 = .ok (.tuple #[v2, b2]) w3 ∧ (Instr.entryStore 169 (.map (some (mb k))) b2 (.bool true)).run Try.prog w3 = .ok () w4 ∧
      ∃ K', Adj w4 base g n n mb K' ∧ (∀ B, B ≤ g → Below B w w4) := by
  obtain ⟨v1, b1, w1, r1, m1, g1⟩ := mset_entry (h.maps i hi) (k : Int)
  obtain ⟨w2, r2, m2, g2⟩ := mset_store m1 (.bool true)
  have g12 := g1.trans g2
  have h2 := h.wrote hi g12 m2 (fun x hx => by
    rcases insK_mem.1 hx with rfl | hx
    · omega
    · exact h.keys i hi x hx)
  obtain ⟨v3, b3, w3, r3, m3, g3⟩ := mset_entry (h2.maps k hk) (i : Int)
  obtain ⟨w4, r4, m4, g4⟩ := mset_store m3 (.bool true)
  have g34 := g3.trans g4
  have h4 := h2.wrote hk g34 m4 (fun x hx => by
    rcases insK_mem.1 hx with rfl | hx
    · omega
    · exact h2.keys k hk x hx)
  refine ⟨v1, _, w1, w2, v3, _, w3, w4, r1, r2, r3, r4, _, h4, fun B hB => ?_⟩
  have hlt := h.lt
  have e1 : Below B w w2 := (Below.refl B w).grown g12 (by omega) (fun j e => by injection e with e; have := h.mbase i hi; omega)
  have hs2 := g12.size
  exact e1.grown g34 (by omega) (fun j e => by injection e with e; have := h.mbase k hk; omega)
end Go.Proofs.Ytadaopfcgpfiiaa
namespace Go.Proofs.Ytadaopfcgpfiiaa
open Go.RowKit Go.Proofs.YtadaopfcgpfiiaaW.PrintWords Go.Proofs.YtadaopfcgpfiiaaW.PrintLast Go.Proofs.YtadaopfcgpfiiaaW.PrintMore PCg
set_option linter.unusedVariables false
set_option linter.unusedSimpArgs false
def rdRow (xs : List (List Int)) (i : Int) : List Int := xs.getD i.toNat []
abbrev kRows : Kd (List Int) := Kd.slice 3 (Kd.int .i64)
theorem rows_at {w : World} {A : Option Addr} {n : Nat} {xs : List (List Int)} (h : Kd.C kRows w A n xs) (i : Int) (h0 : 0 ≤ i) (h1 : i < n) :
    ∃ ad A0 c0, A = some ad ∧ w.cell? (ad.add i.toNat) = some (.slice A0 (rdRow xs i).length c0) ∧ (rdRow xs i).length ≤ c0 ∧ Kd.C (Kd.int .i64) w A0 (rdRow xs i).length (rdRow xs i) := by
  obtain ⟨ad, c, e, _, hK, hc0⟩ := Kd.C_get h ([] : List Int) i h0 h1
  obtain ⟨A0, c0, rfl, l0, g0⟩ := hK
  have h2 := hc0 0 _ rfl
  refine ⟨ad, A0, c0, e, ?_, l0, g0⟩
  have e2 : i.toNat * kRows.sz + 0 = i.toNat := by simp [kRows, Kd.slice]
  rw [e2] at h2
  exact h2
theorem alloc_setCell_old {w : World} {g i : Nat} (h : g < w.heap.size) {o : Obj} {u : Value} : (w.alloc o).setCell ⟨g, i, none⟩ u = (w.setCell ⟨g, i, none⟩ u).alloc o := by
  unfold World.setCell World.alloc
  simp only [World.mk.injEq, and_true]
  apply Array.ext_getElem?
  intro j
  simp only [Array.getElem?_modify, Array.getElem?_push, Array.size_modify]
  by_cases e1 : g = j
  · subst e1
    simp only [if_true, if_neg (show ¬ g = w.heap.size by omega)]
  · simp only [if_neg e1]
def AdjPost (n : Nat) (w : World) (e : Ending) (w' : World) : Prop := ∃ g mb K, e = .returned (.slice (some ⟨g, 0, none⟩) n n) ∧ Adj w' w.heap.size g n n mb K ∧ Below w.heap.size w w'
end Go.Proofs.Ytadaopfcgpfiiaa
namespace Go.Proofs.Ytadaopfcgpfiiaa
open Go.RowKit Go.Proofs.YtadaopfcgpfiiaaW.PrintWords Go.Proofs.YtadaopfcgpfiiaaW.PrintLast Go.Proofs.YtadaopfcgpfiiaaW.PrintMore PCg
set_option linter.unusedVariables false
set_option linter.unusedSimpArgs false
/-- block g of w holds the numbers ds -/
def IntBlk (w : World) (g : Nat) (ds : List Int) : Prop := w.heap[g]? = some (.cells (nums .i64 ds).toArray 3 (0, 0))
def BoolBlk (w : World) (g : Nat) (bs : List Bool) : Prop := w.heap[g]? = some (.cells (bools bs).toArray 4 (0, 0))
section
variable {w w1 : World} {g : Nat} {ds : List Int} {bs : List Bool}
theorem IntBlk.lt (h : IntBlk w g ds) : g < w.heap.size := blk_lt h
theorem BoolBlk.lt (h : BoolBlk w g bs) : g < w.heap.size := blk_lt h
theorem IntBlk.step (h : IntBlk w g ds) (h1 : w1.heap[g]? = w.heap[g]?) : IntBlk w1 g ds := h1.trans h
theorem BoolBlk.step (h : BoolBlk w g bs) (h1 : w1.heap[g]? = w.heap[g]?) : BoolBlk w1 g bs := h1.trans h
theorem IntBlk.below (h : IntBlk w g ds) (hb : Below w.heap.size w w1) : IntBlk w1 g ds := h.step (hb.block _ h.lt)
theorem BoolBlk.below (h : BoolBlk w g bs) (hb : Below w.heap.size w w1) : BoolBlk w1 g bs := h.step (hb.block _ h.lt)
theorem IntBlk.cell (h : IntBlk w g ds) (i : Int) (h0 : 0 ≤ i) (h1 : i < ds.length) : w.cell? ⟨g, i.toNat, none⟩ = some (.int .i64 (rd ds i)) := by
  refine (blk_cell h i.toNat).trans ?_
  have : i.toNat < ds.length := by omega
  simp [nums, rd, List.getD_eq_getElem?_getD, List.getElem?_eq_getElem this]
theorem BoolBlk.cell (h : BoolBlk w g bs) (i : Int) (h0 : 0 ≤ i) (h1 : i < bs.length) : w.cell? ⟨g, i.toNat, none⟩ = some (.bool (bs.getD i.toNat false)) := by
  refine (blk_cell h i.toNat).trans ?_
  have : i.toNat < bs.length := by omega
  simp [bools, List.getD_eq_getElem?_getD, List.getElem?_eq_getElem this]
theorem IntBlk.free (h : IntBlk w g ds) (i : Nat) : w.frozen? ⟨g, i, none⟩ = false := by simp [World.frozen?, show w.heap[g]? = _ from h]
theorem BoolBlk.free (h : BoolBlk w g bs) (i : Nat) : w.frozen? ⟨g, i, none⟩ = false := by simp [World.frozen?, show w.heap[g]? = _ from h]
theorem IntBlk.set (h : IntBlk w g ds) (i : Nat) (x : Int) : IntBlk (w.setCell ⟨g, i, none⟩ (.int .i64 x)) g (ds.set i x) := by
  unfold IntBlk at *
  rw [World.setCell]
  simp only [Array.getElem?_modify, if_true, h, Option.map_some]
  simp [nums, List.map_set]
theorem BoolBlk.set (h : BoolBlk w g bs) (i : Nat) (x : Bool) : BoolBlk (w.setCell ⟨g, i, none⟩ (.bool x)) g (bs.set i x) := by
  unfold BoolBlk at *
  rw [World.setCell]
  simp only [Array.getElem?_modify, if_true, h, Option.map_some]
  simp [bools, List.map_set]
theorem IntBlk.far (h : IntBlk w g ds) {b i : Nat} (hne : g ≠ b) (u : Value) : IntBlk (w.setCell ⟨b, i, none⟩ u) g ds := h.step (Below.heap_setCell w _ u g hne)
theorem BoolBlk.far (h : BoolBlk w g bs) {b i : Nat} (hne : g ≠ b) (u : Value) : BoolBlk (w.setCell ⟨b, i, none⟩ u) g bs := h.step (Below.heap_setCell w _ u g hne)
theorem intBlk_made (w : World) (n : Nat) : IntBlk (w.alloc (.cells (madeCells #[.int .i64 0] n) 3)) w.heap.size (List.replicate n 0) := by
  unfold IntBlk
  rw [blk_new]
  congr 2
  apply Array.toList_inj.1
  apply List.ext_getElem
  · simp [nums, madeCells]
  · intro i h1 h2
    simp [nums, madeCells, Nat.mod_one]
theorem boolBlk_made (w : World) (n : Nat) : BoolBlk (w.alloc (.cells (madeCells #[.bool false] n) 4)) w.heap.size (List.replicate n false) := by
  unfold BoolBlk
  rw [blk_new]
  congr 2
  apply Array.toList_inj.1
  apply List.ext_getElem
  · simp [bools, madeCells]
  · intro i h1 h2
    simp [bools, madeCells, Nat.mod_one]
end
theorem info4 : (Try.prog.info? 4).map (fun i => (i.zero, i.size, i.bytes)) = some (some (.bool false), 1, 1) := by kernel_rfl
theorem make_ints (n : Nat) (h : n ≤ 1000000) (W : World) : (Instr.makeSlice 37 (.int .i64 (n : Int)) (.int .i64 (n : Int))).run Try.prog W = .ok (.slice (some ⟨W.heap.size, 0, none⟩) n n) (W.alloc (.cells (madeCells #[.int .i64 0] n) 3)) :=
  run_make_row' 37 3 (.int .i64 0) 8 Try.underlying37 info3 rfl .i64 .i64 n (by omega) (by omega) W
theorem make_bools (n : Nat) (h : n ≤ 1000000) (W : World) : (Instr.makeSlice 192 (.int .i64 (n : Int)) (.int .i64 (n : Int))).run Try.prog W = .ok (.slice (some ⟨W.heap.size, 0, none⟩) n n) (W.alloc (.cells (madeCells #[.bool false] n) 4)) :=
  run_make_row' 192 4 (.bool false) 1 Try.underlying192 info4 rfl .i64 .i64 n (by omega) (by omega) W
def goneAt (bs : List Bool) (i : Nat) : Bool := bs.getD i false
theorem goneAt_set {bs : List Bool} {p i : Nat} (hp : p < bs.length) : goneAt (bs.set p true) i = (goneAt bs i || decide (i = p)) := by
  unfold goneAt
  simp only [List.getD_eq_getElem?_getD, List.getElem?_set]
  by_cases e : p = i
  · subst e; rw [if_pos rfl, if_pos hp]; simp
  · rw [if_neg e]; simp [show ¬ i = p from fun h => e h.symm]
/-- the ones that are gone are those in order, each once -/
structure Gone (n : Nat) (bs : List Bool) (order : List Int) : Prop where
  len : bs.length = n
  iff : ∀ i, i < n → (goneAt bs i = true ↔ (i : Int) ∈ order)
  range : ∀ x ∈ order, 0 ≤ x ∧ x < n
  cnt : bs.count false + order.length = n
theorem gone_start (n : Nat) : Gone n (List.replicate n false) [] := by
  refine ⟨by simp, fun i hi => ?_, by simp, by simp⟩
  simp [goneAt, List.getD_eq_getElem?_getD, hi]
theorem count_set_false : ∀ (bs : List Bool) (p : Nat), p < bs.length → bs.getD p false = false → (bs.set p true).count false + 1 = bs.count false := by
  intro bs
  induction bs with
  | nil => intro p hp; simp at hp
  | cons b bs ih =>
    intro p hp h
    cases p with
    | zero =>
      have : b = false := by simpa using h
      subst this
      simp
    | succ p =>
      have := ih p (by simpa using hp) (by simpa using h)
      rw [List.set_cons_succ]
      cases b <;> simp [List.count_cons] <;> omega
theorem Gone.pick {n : Nat} {bs : List Bool} {order : List Int} (h : Gone n bs order) {p : Int} (h0 : 0 ≤ p) (h1 : p < n) (hg : goneAt bs p.toNat = false) : Gone n (bs.set p.toNat true) (order ++ [p]) := by
  obtain ⟨hl, hi, hr, hc⟩ := h
  have hp : p.toNat < bs.length := by omega
  refine ⟨by simp [hl], fun i hin => ?_, fun x hx => ?_, ?_⟩
  · rw [goneAt_set hp]
    simp only [Bool.or_eq_true, decide_eq_true_eq, List.mem_append, List.mem_singleton, hi i hin]
    constructor
    · rintro (h | h)
      · exact .inl h
      · exact .inr (by omega)
    · rintro (h | h)
      · exact .inl h
      · exact .inr (by omega)
  · rcases List.mem_append.1 hx with hx | hx
    · exact hr x hx
    · simp at hx; omega
  · have := count_set_false bs p.toNat hp hg
    simp; omega
theorem count_false_pos : ∀ (bs : List Bool), 0 < bs.count false → ∃ i, i < bs.length ∧ bs.getD i false = false := by
  intro bs
  induction bs with
  | nil => intro h; simp at h
  | cons b bs ih =>
    intro h
    cases b with
    | false => exact ⟨0, by simp, rfl⟩
    | true =>
      obtain ⟨i, hi, h2⟩ := ih (by simpa using h)
      exact ⟨i + 1, by simpa using hi, by simpa using h2⟩
theorem Gone.left {n : Nat} {bs : List Bool} {order : List Int} (h : Gone n bs order) (hlt : order.length < n) : ∃ i, i < n ∧ goneAt bs i = false := by
  obtain ⟨i, hi, h2⟩ := count_false_pos bs (by have := h.cnt; omega)
  exact ⟨i, by have := h.len; omega, h2⟩
theorem Gone.all {n : Nat} {bs : List Bool} {order : List Int} (h : Gone n bs order) (hge : n ≤ order.length) (i : Nat) (hi : i < n) : (i : Int) ∈ order := by
  refine (h.iff i hi).1 ?_
  have hc : bs.count false = 0 := by have := h.cnt; omega
  have hn := List.count_eq_zero.1 hc
  unfold goneAt
  rw [List.getD_eq_getElem?_getD, List.getElem?_eq_getElem (by have := h.len; omega)]
  simp only [Option.getD_some]
  cases hb : bs[i]'(by have := h.len; omega) with
  | true => rfl
  | false => exact absurd (hb ▸ List.getElem_mem (h := by have := h.len; omega)) hn
end Go.Proofs.Ytadaopfcgpfiiaa
namespace Go.Proofs.Ytadaopfcgpfiiaa
open Go.RowKit Go.Proofs.YtadaopfcgpfiiaaW.PrintWords Go.Proofs.YtadaopfcgpfiiaaW.PrintLast Go.Proofs.YtadaopfcgpfiiaaW.PrintMore PCg
set_option linter.unusedVariables false
set_option linter.unusedSimpArgs false
def OrderPost (n : Nat) (w : World) (e : Ending) (w' : World) : Prop :=
  ∃ v order, e = .returned v ∧ Kd.R (Kd.int .i64) 3 w' w.heap.size (fun _ => True) v order ∧ Below w.heap.size w w' ∧ order.length = n ∧ (∀ x ∈ order, 0 ≤ x ∧ x < n) ∧ (∀ i, i < n → (i : Int) ∈ order)
/-- what remove's loops keep: its three rows, and that all else is as it was -/
structure RemSt (w wr : World) (n : Nat) (ds : List Int) (bs : List Bool) : Prop where
  below : Below w.heap.size w wr
  deg : IntBlk wr w.heap.size ds
  gone : BoolBlk wr (w.heap.size + 1) bs
  dlen : ds.length = n
section
variable {w wr w1 : World} {n : Nat} {ds : List Int} {bs : List Bool}
theorem RemSt.step (h : RemSt w wr n ds bs) (hb : Below wr.heap.size wr w1) : RemSt w w1 n ds bs :=
  ⟨below_step h.below hb, h.deg.below hb, h.gone.below hb, h.dlen⟩
theorem RemSt.grown (h : RemSt w wr n ds bs) {row : Option Nat} (hg : wr.grownBy w1 row) (hr : ∀ k, row = some k → w.heap.size + 2 ≤ k) : RemSt w w1 n ds bs := by
  have h1 := h.gone.lt
  exact ⟨h.below.grown hg (by omega) (fun k e => by have := hr k e; omega), h.deg.step (hg.block _ h.deg.lt (fun e => by have := hr _ e.symm; omega)), h.gone.step (hg.block _ h.gone.lt (fun e => by have := hr _ e.symm; omega)), h.dlen⟩
theorem RemSt.setDeg (h : RemSt w wr n ds bs) (i : Nat) (x : Int) : RemSt w (wr.setCell ⟨w.heap.size, i, none⟩ (.int .i64 x)) n (ds.set i x) bs :=
  ⟨h.below.setCell (p := ⟨w.heap.size, i, none⟩) (Nat.le_refl _) _, h.deg.set i x, h.gone.far (by omega) _, by simp [h.dlen]⟩
theorem RemSt.setGone (h : RemSt w wr n ds bs) (i : Nat) (x : Bool) : RemSt w (wr.setCell ⟨w.heap.size + 1, i, none⟩ (.bool x)) n ds (bs.set i x) :=
  ⟨h.below.setCell (p := ⟨w.heap.size + 1, i, none⟩) (Nat.le_succ _) _, h.deg.far (by omega) _, h.gone.set i x, h.dlen⟩
theorem remSt_start (w : World) (n : Nat) : RemSt w ((w.alloc (.cells (madeCells #[.int .i64 0] n) 3)).alloc (.cells (madeCells #[.bool false] n) 4)) n (List.replicate n 0) (List.replicate n false) := by
  have h2 := boolBlk_made (w.alloc (.cells (madeCells #[.int .i64 0] n) 3)) n
  rw [World.size_alloc] at h2
  exact ⟨below_alloc (below_alloc (Below.refl _ _) _) _, (intBlk_made w n).below (below_alloc (Below.refl _ _) _), h2, by simp⟩
end
structure PickRel (w5 : World) (n : Nat) (bs : List Bool) (q k3 : Int) (wr : World) : Prop where
  k0 : 0 ≤ k3
  k1 : k3 ≤ n
  q0 : -1 ≤ q
  q1 : q < n
  yes : 0 ≤ q → goneAt bs q.toNat = false
  no : q = -1 → ∀ j : Nat, (j : Int) < k3 → goneAt bs j = true
  below : Below w5.heap.size w5 wr
theorem remOrder {w W : World} {v : Value} {xs : List Int} (h : Kd.R (Kd.int .i64) 3 W w.heap.size (fun b => w.heap.size + 2 ≤ b) v xs) (i : Nat) (x : Bool) :
    Kd.R (Kd.int .i64) 3 (W.setCell ⟨w.heap.size + 1, i, none⟩ (.bool x)) w.heap.size (fun b => w.heap.size + 2 ≤ b) v xs :=
  Kd.R_step h (fun k hk _ => Below.heap_setCell W _ _ k (by simp; omega))
section
variable {ops : Array Oper} {rest : List Oper} {o : Oper} {a : Act} {Q : Exit → Act → World → Prop} {w : World}
theorem wpList_len_mset (hg : o.guard = none) (m : Operand) (hop : o.op = Op.call { callee := Callee.builtin Builtin.len, args := #[m], argTypes := #[169] })
    (b : Nat) (es : Array MapEntry) (cl : Nat) (hm : a.eval m = .map (some b)) (hb : w.heap[b]? = some (.map es cl)) (hK : wpList Try.prog ops Q rest (a.put o.dst (.int .i64 es.size)) w) :
    wpList Try.prog ops Q (o :: rest) a w := by
  refine wpList_plain hg fun K' hK' => ?_
  have hl : (Builtin.len_ #[169] o.type #[.map (some b)]).run Try.prog w = .ok (.int .i64 es.size) w := by
    simp [Builtin.len_, run_underlying Try.underlying169, MapKept.run_getObj_map hb, goInt, Result.andThen]
  unfold Oper.wp
  simp [execOp, hop, resolve, invoke, builtin, hm, hl, Result.andThen]
  exact hK' _ _ hK
end
end Go.Proofs.Ytadaopfcgpfiiaa
