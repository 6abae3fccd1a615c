/- Lemmas: what the theorem of the claim's last text needs, joined by a program out of the seat's texts S0, S1, Q3. -/
import Derived.Test.YtadaopfcgpfiiaaCCountersX01
import Derived.Test.YtadaopfcgpfiiaaBaseX32
namespace Go.Proofs.Ytadaopfcgpfiiaa
open Go.RowKit Go.Proofs.YtadaopfcgpfiiaaW.PrintWords Go.Proofs.YtadaopfcgpfiiaaW.PrintLast Go.Proofs.YtadaopfcgpfiiaaW.PrintMore PCg
set_option linter.unusedVariables false
set_option linter.unusedSimpArgs false
/-- within the bounds of the statements -/
def Small (regs : Int) (arrs : List S44) (blks : List S49) : Prop := blks.length ≤ 20 ∧ regs ≤ 60 ∧ arrs.length ≤ 8 ∧ (blks.map (fun b => b.f0.length)).sum ≤ 300 ∧ ∀ b ∈ blks, b.f0.length ≤ 30
theorem small_go (nm : ByteArray) (regs : Int) (arrs : List S44) (blks : List S49) (hl : blks.length ≤ 20) : ∀ n j fuel : Nat, j + n = blks.length → n < fuel → sumTo blks j ≤ 300 → (∀ q : Nat, q < j → (rd_T49 blks q).f0.length ≤ 30) →
    ontimelaw21_small.l0 fuel (sumTo blks j : Nat) (j : Int) nm regs arrs blks = some 0 ∨ (ontimelaw21_small.l0 fuel (sumTo blks j : Nat) (j : Int) nm regs arrs blks = some 1 ∧ sumTo blks blks.length ≤ 300 ∧ ∀ q : Nat, q < blks.length → (rd_T49 blks q).f0.length ≤ 30) := by
  intro n
  induction n with
  | zero =>
    intro j fuel hj hf hs hq
    obtain ⟨f, rfl⟩ : ∃ f, fuel = f + 1 := ⟨fuel - 1, by omega⟩
    have e : j = blks.length := by omega
    subst e
    right
    refine ⟨?_, hs, hq⟩
    unfold ontimelaw21_small.l0
    rw [if_neg (by omega)]
  | succ n ih =>
    intro j fuel hj hf hs hq
    obtain ⟨f, rfl⟩ : ∃ f, fuel = f + 1 := ⟨fuel - 1, by omega⟩
    unfold ontimelaw21_small.l0
    rw [if_pos (by omega), if_pos (by omega)]
    by_cases h1 : ((rd_T49 blks (j : Int)).f0.length : Int) > 30
    · rw [if_pos h1]; exact .inl rfl
    · rw [if_neg h1]
      have hsw : wrap64 (((sumTo blks j : Nat) : Int) + ((rd_T49 blks (j : Int)).f0.length : Int)) = ((sumTo blks (j + 1) : Nat) : Int) := by
        rw [w64 (by omega), sumTo]; omega
      rw [hsw]
      by_cases h2 : ((sumTo blks (j + 1) : Nat) : Int) > 300
      · rw [if_pos h2]; exact .inl rfl
      · rw [if_neg h2, w64 (by omega), show (j : Int) + 1 = ((j + 1 : Nat) : Int) by omega]
        exact ih (j + 1) f (by omega) (by omega) (by omega) (fun q hq' => by
          by_cases e : q < j
          · exact hq q e
          · have : q = j := by omega
            subst this
            omega)
theorem small_f (nm : ByteArray) (regs : Int) (arrs : List S44) (blks : List S49) : ontimelaw21_small.f 100 nm regs arrs blks = some 0 ∨ (ontimelaw21_small.f 100 nm regs arrs blks = some 1 ∧ Small regs arrs blks) := by
  unfold ontimelaw21_small.f
  by_cases h1 : (blks.length : Int) > 20
  · rw [if_pos h1]; left; rfl
  · rw [if_neg h1]
    by_cases h2 : regs > 60
    · rw [if_pos h2]; left; rfl
    · rw [if_neg h2]
      by_cases h3 : (arrs.length : Int) > 8
      · rw [decide_eq_true h3]; left; rfl
      · rw [decide_eq_false h3]
        have e : ontimelaw21_small.j0 100 false nm regs arrs blks = ontimelaw21_small.l0 99 ((sumTo blks 0 : Nat) : Int) ((0 : Nat) : Int) nm regs arrs blks := by
          unfold ontimelaw21_small.j0
          rfl
        rw [e]
        rcases small_go nm regs arrs blks (by omega) blks.length 0 99 (by omega) (by omega) (by simp [sumTo]) (fun q hq => by omega) with h | ⟨h, hs, hq⟩
        · exact .inl h
        · refine .inr ⟨h, by omega, by omega, by omega, by rw [← sumTo_eq]; exact hs, fun b hb => ?_⟩
          obtain ⟨j, hj, rfl⟩ := List.mem_iff_getElem.1 hb
          have := hq j hj
          rwa [rd_Blk_get _ _ hj] at this
theorem mentL_flat (blks : List S49) : mentL blks = (blks.flatMap (fun b => b.f0)).foldl mentI [] := by
  have h : ∀ acc : List S44, blks.foldl mentB acc = (blks.flatMap (fun b => b.f0)).foldl mentI acc := by
    induction blks with
    | nil => intro acc; rfl
    | cons b l ih => intro acc; simp only [List.foldl_cons, List.flatMap_cons, List.foldl_append]; exact ih _
  exact h []
/-- names once, and of one element -/
structure MentOk (acc : List S44) : Prop where
  one : ∀ a ∈ acc, a.f1 = 1
  dis : ∀ k : Nat, k < acc.length → shOkAt acc k = true
theorem memA_name {acc : List S44} (h : ∀ a ∈ acc, a.f1 = 1) (nm : ByteArray) : memA acc nm 1 = hasName acc nm := by
  unfold memA hasName
  induction acc with
  | nil => rfl
  | cons a l ih =>
    simp only [List.any_cons]
    rw [ih (fun b hb => h b (List.mem_cons_of_mem _ hb)), h a (List.mem_cons_self ..)]
    simp only [beq_self_eq_true, Bool.and_true]
    rw [BEq.comm (a := nm.toList)]
theorem mentI_name {acc : List S44} (h : ∀ a ∈ acc, a.f1 = 1) (i : S51) : mentI acc i = if isShr i.f0 = true then (if hasName acc i.f5 = true then acc else acc ++ [⟨i.f5, 1⟩]) else acc := by
  unfold mentI; rw [memA_name h]
theorem rd_Arr_get (l : List S44) (k : Nat) (h : k < l.length) : rd_T44 l (k : Int) = l[k] := by
  simp only [rd_T44, List.getD_eq_getElem?_getD, Int.toNat_natCast, List.getElem?_eq_getElem h, Option.getD_some]
theorem MentOk.step {acc : List S44} (h : MentOk acc) (i : S51) : MentOk (mentI acc i) := by
  rw [mentI_name h.one]
  split
  · split
    · exact h
    · rename_i hn
      refine ⟨fun a ha => ?_, fun k hk => ?_⟩
      · rcases List.mem_append.1 ha with ha | ha
        · exact h.one a ha
        · rw [List.mem_singleton.1 ha]
      · simp only [List.length_append, List.length_cons, List.length_nil] at hk
        by_cases e : k < acc.length
        · have h1 := h.dis k e
          simp only [shOkAt, Int.toNat_natCast] at h1 ⊢
          rw [rd_Arr_get _ _ e] at h1
          rw [rd_Arr_get _ _ (by simp; omega), List.getElem_append_left e, List.take_append_of_le_length (by omega)]
          exact h1
        · obtain rfl : k = acc.length := by omega
          simp only [shOkAt, Int.toNat_natCast]
          rw [rd_Arr_get _ _ (by simp), List.take_left']
          · simpa using hn
          · rfl
  · exact h
theorem hasName_append (a b : List S44) (nm : ByteArray) : hasName (a ++ b) nm = (hasName a nm || hasName b nm) := by simp [hasName]
theorem hasName_step {acc : List S44} (i : S51) {nm : ByteArray} (hn : hasName acc nm = true) : hasName (mentI acc i) nm = true := by
  unfold mentI
  split
  · split
    · exact hn
    · rw [hasName_append, hn]; rfl
  · exact hn
theorem ment_fold (l : List S51) : ∀ acc : List S44, MentOk acc → MentOk (l.foldl mentI acc) ∧ (∀ nm, hasName acc nm = true → hasName (l.foldl mentI acc) nm = true) ∧ (∀ i ∈ l, isShr i.f0 = true → hasName (l.foldl mentI acc) i.f5 = true) ∧
    ∀ a ∈ l.foldl mentI acc, a ∈ acc ∨ ∃ i ∈ l, isShr i.f0 = true ∧ a.f0 = i.f5 := by
  induction l with
  | nil => intro acc h; exact ⟨h, fun _ h => h, by simp, fun a ha => .inl ha⟩
  | cons i l ih =>
    intro acc h
    obtain ⟨h1, h2, h3, h4⟩ := ih _ (h.step i)
    simp only [List.foldl_cons]
    refine ⟨h1, fun nm hn => h2 nm (hasName_step i hn), fun j hj hs => ?_, fun a ha => ?_⟩
    · rcases List.mem_cons.1 hj with rfl | hj
      · refine h2 _ ?_
        rw [mentI_name h.one, if_pos hs]
        split
        · assumption
        · rw [hasName_append]; simp [hasName]
      · exact h3 j hj hs
    · rcases h4 a ha with ha | ⟨j, hj, e⟩
      · rw [mentI_name h.one] at ha
        split at ha
        · rename_i hs
          split at ha
          · exact .inl ha
          · rcases List.mem_append.1 ha with ha | ha
            · exact .inl ha
            · rw [List.mem_singleton.1 ha]
              exact .inr ⟨i, List.mem_cons_self .., hs, rfl⟩
        · exact .inl ha
      · exact .inr ⟨j, List.mem_cons_of_mem _ hj, e⟩
theorem ment_ok (blks : List S49) : MentOk (mentL blks) ∧ (∀ b ∈ blks, ∀ i ∈ b.f0, isShr i.f0 = true → hasName (mentL blks) i.f5 = true) ∧ ∀ a ∈ mentL blks, ∃ b ∈ blks, ∃ i ∈ b.f0, isShr i.f0 = true ∧ a.f0 = i.f5 := by
  obtain ⟨h1, _, h3, h4⟩ := ment_fold (blks.flatMap (fun b => b.f0)) [] ⟨by simp, by simp⟩
  rw [← mentL_flat] at h1 h3 h4
  refine ⟨h1, fun b hb i hi => h3 i (List.mem_flatMap.2 ⟨b, hb, hi⟩), fun a ha => ?_⟩
  rcases h4 a ha with h | ⟨i, hi, h⟩
  · cases h
  · obtain ⟨b, hb, hi⟩ := List.mem_flatMap.1 hi
    exact ⟨b, hb, i, hi, h⟩
theorem isShr_sym (op : Int) : isShr op = true ↔ (shp op).sym = 2 := by
  by_cases h16 : op = 1 ∨ op = 2 ∨ op = 3 ∨ op = 4 ∨ op = 5 ∨ op = 6 ∨ op = 7 ∨ op = 8 ∨ op = 9 ∨ op = 10 ∨ op = 11 ∨ op = 12 ∨ op = 13 ∨ op = 14 ∨ op = 15 ∨ op = 16
  · rcases h16 with e | e | e | e | e | e | e | e | e | e | e | e | e | e | e | e <;> subst e <;> simp [isShr, shp]
  · simp only [not_or] at h16
    simp [isShr, shp, h16]
theorem hasName_iff (l : List S44) (nm : ByteArray) : hasName l nm = true ↔ ∃ a ∈ l, a.f0.toList = nm.toList := by simp [hasName]
theorem insOk_ment {regs : Int} {arrs shared ment : List S44} {i : S51} (h : insOk regs arrs shared i = true) (hm : isShr i.f0 = true → hasName ment i.f5 = true) : insOk regs arrs ment i = true := by
  unfold insOk at h ⊢
  simp only [Bool.and_eq_true] at h ⊢
  refine ⟨h.1, ?_⟩
  have h2 := h.2
  unfold symOk at h2 ⊢
  split
  · rename_i e; rw [if_pos e] at h2; exact h2
  · rename_i e1
    split
    · rename_i e2; exact hm ((isShr_sym _).2 e2)
    · rename_i e2; rw [if_neg e1, if_neg e2] at h2; exact h2
/-- valid with some shared objects: valid with those that it mentions -/
theorem irOk_ment {regs : Int} {arrs : List S44} {blks : List S49} {shared : List S44} (h : irOk regs arrs blks shared = true) : irOk regs arrs blks (mentL blks) = true := by
  obtain ⟨f1, f2, f3, f4, f5, f6, f7⟩ := irOk_facts h
  obtain ⟨m1, m2, m3⟩ := ment_ok blks
  have hins : ∀ b ∈ blks, ∀ i ∈ b.f0, insOk regs arrs shared i = true := fun b hb i hi => by
    obtain ⟨j, hj, rfl⟩ := List.mem_iff_getElem.1 hb
    have := f7 j hj
    rw [rd_Blk_get _ _ hj] at this
    simp only [blkOk, Bool.and_eq_true, List.all_eq_true] at this
    exact this.2 i hi
  unfold irOk
  simp only [Bool.and_eq_true, decide_eq_true_eq]
  refine ⟨⟨⟨⟨⟨⟨f1, f2⟩, f3⟩, f4⟩, ?_⟩, ?_⟩, ?_⟩
  · refine allTo_true fun j h0 h1 => ?_
    have := f5 j.toNat (by omega)
    rw [show ((j.toNat : Nat) : Int) = j by omega] at this
    simp only [arrOkAt, Bool.and_eq_true] at this ⊢
    refine ⟨this.1, ?_⟩
    have h2 := this.2
    simp only [Bool.not_eq_true'] at h2 ⊢
    rw [Bool.eq_false_iff]
    intro hn
    obtain ⟨a, ha, e⟩ := (hasName_iff _ _).1 hn
    obtain ⟨b, hb, i, hi, hs, e2⟩ := m3 a ha
    have hi2 := hins b hb i hi
    unfold insOk symOk at hi2
    simp only [Bool.and_eq_true] at hi2
    have h3 := hi2.2
    rw [if_neg (by rw [(isShr_sym _).1 hs]; omega), if_pos ((isShr_sym _).1 hs)] at h3
    obtain ⟨c, hc, e3⟩ := (hasName_iff _ _).1 h3
    rw [Bool.eq_false_iff] at h2
    exact h2 ((hasName_iff _ _).2 ⟨c, hc, by rw [e3, ← e2, e]⟩)
  · refine allTo_true fun j h0 h1 => ?_
    have := m1.dis j.toNat (by omega)
    rwa [show ((j.toNat : Nat) : Int) = j by omega] at this
  · refine allTo_true fun j h0 h1 => ?_
    have := f7 j.toNat (by omega)
    rw [show ((j.toNat : Nat) : Int) = j by omega] at this
    simp only [blkOk, Bool.and_eq_true, List.all_eq_true] at this ⊢
    refine ⟨this.1, fun i hi => insOk_ment (this.2 i hi) (fun hs => ?_)⟩
    have hb : rd_T49 blks j ∈ blks := by
      rw [show j = ((j.toNat : Nat) : Int) by omega, rd_Blk_get _ _ (by omega)]
      exact List.getElem_mem _
    exact m2 _ hb i hi hs
end Go.Proofs.Ytadaopfcgpfiiaa
namespace Go.Proofs.Ytadaopfcgpfiiaa
open Go.RowKit Go.Proofs.YtadaopfcgpfiiaaW.PrintWords Go.Proofs.YtadaopfcgpfiiaaW.PrintLast Go.Proofs.YtadaopfcgpfiiaaW.PrintMore PCg
set_option linter.unusedVariables false
set_option linter.unusedSimpArgs false
/-- an opcode writes its first register -/
def wrOp (op : Int) : Bool := decide (2 ≤ op ∧ op ≤ 18) || op == 20 || op == 26
def ctr (x : S53) : Bool := (wrOp x.f0 || x.f0 == 25) && decide (10 ≤ x.f1) && decide (x.f1 ≤ 13)
/-- the instruction of a counter -/
def ctrOf (i : S51) : Option S53 := if i.f0 = 13 then some ⟨14, 10 + i.f4, 0, 0, 0⟩ else if i.f0 = 14 then some ⟨15, 10 + i.f4, 10 + i.f4, 0, 1⟩ else if i.f0 = 16 then some ⟨25, 10 + i.f2, 0, 0, i.f4⟩ else none
def noC (l : List S53) : Prop := ∀ x ∈ l, x.f1 < 10 ∨ 13 < x.f1 ∨ (wrOp x.f0 = false ∧ x.f0 ≠ 25)
theorem filter_noC {l : List S53} (h : noC l) : l.filter ctr = [] := by
  rw [List.filter_eq_nil_iff]
  intro x hx hc
  have := h x hx
  simp only [ctr, Bool.and_eq_true, Bool.or_eq_true, beq_iff_eq, decide_eq_true_eq] at hc
  rcases this with h1 | h1 | ⟨h1, h2⟩
  · omega
  · omega
  · rcases hc.1.1 with h3 | h3
    · rw [h1] at h3; cases h3
    · exact h2 h3
theorem noC_use (sp : Int) (p : Int × Int) {into : Int} (hi : 13 < into) : noC (useCode sp p into) := by
  unfold useCode; intro x hx
  split at hx
  · cases hx
  · rw [List.mem_singleton.1 hx]; exact .inr (.inl hi)
theorem noC_store (sp : Int) (p : Int × Int) : noC (storeCode sp p) := by
  unfold storeCode; intro x hx
  split at hx
  · cases hx
  · rw [List.mem_singleton.1 hx]; exact .inr (.inl (by simp))
theorem noC_const {d : Int} (hd : d < 10 ∨ 13 < d) (n : Int) : noC (constCode d n) := by
  unfold constCode; intro x hx
  repeat' split at hx
  all_goals simp only [List.mem_cons, List.not_mem_nil, or_false] at hx
  · subst hx; dsimp only; omega
  · rcases hx with rfl | rfl | rfl <;> (dsimp only; omega)
theorem noC_bin {d : Int} (hd : d < 10 ∨ 13 < d) (op x y : Int) : noC (binCode op d x y) := by
  unfold binCode; intro z hx
  repeat' split at hx
  all_goals simp only [List.mem_cons, List.not_mem_nil, or_false] at hx
  all_goals first
    | (rcases hx with rfl | rfl | rfl | rfl <;> (dsimp only; omega))
    | (rcases hx with rfl | rfl | rfl <;> (dsimp only; omega))
    | (rcases hx with rfl | rfl <;> (dsimp only; omega))
    | (subst hx; dsimp only; omega)
theorem useReg_out {regs : Int} {pl : List (Int × Int)} (h : PlOk regs pl) {v : Int} (hv : 0 ≤ v ∧ v < regs) {into : Int} (hi : 13 < into) : useReg (rdTwo pl v) into < 10 ∨ 13 < useReg (rdTwo pl v) into := by
  have := h v hv.1 hv.2
  unfold useReg
  split <;> omega
theorem genIns_ctr {regs : Int} {arrs shared : List S44} {i : S51} (h : insOk regs arrs shared i = true) {pl : List (Int × Int)} (hp : PlOk regs pl) (sp : Int) (m : ByteArray → Int) (st : GSt) :
    (genIns sp pl m st i).code.filter ctr = st.code.filter ctr ++ (ctrOf i).toList := by
  have u1 := fun p => filter_noC (noC_use sp p (into := 14) (by decide))
  have u2 := fun p => filter_noC (noC_use sp p (into := 15) (by decide))
  have s := fun p => filter_noC (noC_store sp p)
  have r1 : ∀ {v : Int}, (0 ≤ v ∧ v < regs) → useReg (rdTwo pl v) 14 < 10 ∨ 13 < useReg (rdTwo pl v) 14 := fun hv => useReg_out hp hv (by decide)
  have r2 : ∀ {v : Int}, (0 ≤ v ∧ v < regs) → useReg (rdTwo pl v) 15 < 10 ∨ 13 < useReg (rdTwo pl v) 15 := fun hv => useReg_out hp hv (by decide)
  have o : ∀ {x : S53}, (x.f1 < 10 ∨ 13 < x.f1) → [x].filter ctr = [] := fun {x} hx => filter_noC (fun y hy => by rw [List.mem_singleton.1 hy]; rcases hx with h | h; exact .inl h; exact .inr (.inl h))
  have o2 : ∀ {x : S53}, wrOp x.f0 = false → x.f0 ≠ 25 → [x].filter ctr = [] := fun {x} h1 h2 => filter_noC (fun y hy => by rw [List.mem_singleton.1 hy]; exact .inr (.inr ⟨h1, h2⟩))
  rcases insOk_cases h with ⟨e, h1, h4⟩ | ⟨e, h1, h2⟩ | ⟨e, h1, h2, h3, h4⟩ | ⟨e, h1, h2⟩ | ⟨e, h2, h3⟩ | ⟨e, h1, h2⟩ | ⟨e, h2, h3⟩ | ⟨e, h2, h4⟩ | ⟨e, h1, h4⟩ | ⟨e, h2, h4⟩ | e | e | ⟨e, h4⟩ | ⟨e, h4⟩ | ⟨e, h1, h4⟩ | ⟨e, h2, h4⟩
  all_goals simp only [genIns, genDef, genDef1, ctrOf, e, if_true, reduceIte, Int.reduceEq, if_false, GSt.emit, GSt.refer, List.filter_append, u1, u2, s, List.append_nil, Option.toList_none, Option.toList_some]
  · rw [filter_noC (noC_const (r1 h1) _)]; simp only [List.append_nil]
  · rw [o (r1 h1)]; simp only [List.append_nil]
  · rw [filter_noC (noC_bin (r1 h1) _ _ _)]; simp only [List.append_nil]
  · rw [o (r1 h1)]; simp only [List.append_nil]
  · rw [o2 rfl (by simp)]; simp only [List.append_nil]
  · rw [o (r1 h1)]; simp only [List.append_nil]
  · rw [o2 rfl (by simp)]; simp only [List.append_nil]
  · rw [o (r1 h2)]; simp only [List.append_nil]
  · rw [o (r1 h1)]; simp only [List.append_nil]
  · rw [o2 rfl (by simp)]; simp only [List.append_nil]
  · rw [o2 rfl (by simp)]; simp only [List.append_nil]
  · rw [o2 rfl (by simp)]; simp only [List.append_nil]
  · rw [List.filter_cons_of_pos (by simp [ctr, wrOp]; omega)]; rfl
  · rw [List.filter_cons_of_pos (by simp [ctr, wrOp]; omega)]; rfl
  · rw [o (r1 h1)]; simp only [List.append_nil]
  · rw [List.filter_cons_of_pos (by simp [ctr, wrOp]; omega)]; rfl
theorem genCode_ctr {regs : Int} {arrs shared : List S44} {pl : List (Int × Int)} (hp : PlOk regs pl) (sp : Int) (m : ByteArray → Int) (l : List S51) (h : ∀ i ∈ l, insOk regs arrs shared i = true) : ∀ st : GSt,
    (genCode sp pl m st l).code.filter ctr = st.code.filter ctr ++ l.filterMap ctrOf := by
  induction l with
  | nil => intro st; simp [genCode]
  | cons i l ih =>
    intro st
    have h1 := genIns_ctr (h i (List.mem_cons_self ..)) hp sp m st
    have h2 := ih (fun j hj => h j (List.mem_cons_of_mem _ hj)) (genIns sp pl m st i)
    simp only [genCode, List.foldl_cons] at h2 ⊢
    rw [h2, h1, List.filterMap_cons]
    cases hq : ctrOf i <;> simp
theorem genBlk_ctr {nb regs : Int} {arrs shared : List S44} {pl : List (Int × Int)} (hp : PlOk regs pl) (sp : Int) (m : ByteArray → Int) (st : GSt) (k : Int) (b : S49) (hb : blkOk regs nb arrs shared b = true) :
    (genBlk sp pl m st k b).code.filter ctr = st.code.filter ctr ++ b.f0.filterMap ctrOf := by
  simp only [blkOk, Bool.and_eq_true, List.all_eq_true] at hb
  have h1 := genCode_ctr hp sp m b.f0 hb.2 st.start
  have o2 : ∀ {x : S53}, wrOp x.f0 = false → x.f0 ≠ 25 → [x].filter ctr = [] := fun {x} h1 h2 => filter_noC (fun y hy => by rw [List.mem_singleton.1 hy]; exact .inr (.inr ⟨h1, h2⟩))
  have u1 := fun p => filter_noC (noC_use sp p (into := 14) (by decide))
  change _ = st.code.filter ctr ++ _ at h1
  unfold genBlk
  simp only
  generalize genCode sp pl m st.start b.f0 = st2 at *
  split
  · simp only [GSt.emit, List.filter_append, h1]; rw [o2 rfl (by simp), List.append_nil]
  · split
    · split
      · simp only [GSt.emit, GSt.leap, List.filter_append, u1, h1, List.append_nil]; rw [o2 rfl (by simp), List.append_nil]
      · simp only [GSt.emit, GSt.leap, List.filter_append, u1, h1, List.append_nil]; rw [o2 rfl (by simp), o2 rfl (by simp), List.append_nil, List.append_nil]
    · split
      · exact h1
      · simp only [GSt.leap, List.filter_append, h1]; rw [o2 rfl (by simp), List.append_nil]
theorem genTo_ctr {regs : Int} {arrs : List S44} {blks : List S49} {shared : List S44} (h : irOk regs arrs blks shared = true) {pl : List (Int × Int)} (hp : PlOk regs pl) (sp : Int) (m : ByteArray → Int) (st : GSt) (k : Nat) (hk : k ≤ blks.length) :
    (genTo sp pl m blks st k).code.filter ctr = st.code.filter ctr ++ (blks.take k).flatMap (fun b => b.f0.filterMap ctrOf) := by
  induction k with
  | zero => simp [genTo]
  | succ k ih =>
    rw [genTo, genBlk_ctr hp sp m _ _ _ ((irOk_facts h).2.2.2.2.2.2 k (by omega)), ih (by omega), List.take_add_one, List.getElem?_eq_getElem (by omega), rd_Blk_get _ _ (by omega)]
    simp only [Option.toList_some, List.flatMap_append, List.flatMap_cons, List.flatMap_nil, List.append_nil, List.append_assoc]
theorem filter_same : ∀ (a b : List S53), a.length = b.length → (∀ k : Nat, k < b.length → rd_T53 a k = rd_T53 b k ∨ (ctr (rd_T53 a k) = false ∧ ctr (rd_T53 b k) = false)) → a.filter ctr = b.filter ctr := by
  intro a
  induction a with
  | nil => intro b hl _; cases b with | nil => rfl | cons _ _ => simp at hl
  | cons x a ih =>
    intro b hl h
    cases b with
    | nil => simp at hl
    | cons y b =>
      have h0 := h 0 (by simp)
      have h1 : ∀ k : Nat, k < b.length → rd_T53 a k = rd_T53 b k ∨ (ctr (rd_T53 a k) = false ∧ ctr (rd_T53 b k) = false) := fun k hk => by
        have := h (k + 1) (by simp; omega)
        simpa [rd_T53] using this
      have e := ih b (by simpa using hl) h1
      simp only [rd_T53] at h0
      rcases h0 with h0 | ⟨h0, h2⟩
      · have : x = y := by simpa using h0
        subst this
        simp only [List.filter_cons, e]
      · have h0 : ctr x = false := by simpa using h0
        have h2 : ctr y = false := by simpa using h2
        simp only [List.filter_cons, h0, h2, e, Bool.false_eq_true, if_false]
/-- the counters' instructions in the object's code are the function's, in its order -/
theorem task_ctr {regs : Int} {arrs : List S44} {blks : List S49} {shared : List S44} (h : irOk regs arrs blks shared = true) {places : List (Int × Int)} {slots : Int} (hA : AllocOk regs places slots)
    {nb : Int} (addr : List Int) (size : Int) (hG : GOk nb (genTask arrs addr size blks places slots)) :
    (patchAll (genTask arrs addr size blks places slots)).filter ctr = blks.flatMap (fun b => b.f0.filterMap ctrOf) := by
  have h1 : (patchAll (genTask arrs addr size blks places slots)).filter ctr = (genTask arrs addr size blks places slots).code.filter ctr := by
    obtain ⟨hl, hf⟩ := fold_patch (genTask arrs addr size blks places slots).starts (genTask arrs addr size blks places slots).patches (genTask arrs addr size blks places slots).code (fun p hp => ⟨(hG.pat p hp).1, (hG.pat p hp).2.1⟩)
    refine filter_same _ _ hl (fun k hk => ?_)
    obtain ⟨hs, hc⟩ := hf k hk
    rcases hc with ⟨p, hp, e1, e2⟩ | ⟨_, e⟩
    · right
      obtain ⟨_, _, c, _⟩ := hG.pat p hp
      rw [e1] at c
      have c2 := hs.1
      change (rd_T53 (patchAll (genTask arrs addr size blks places slots)) k).f0 = _ at c2
      constructor
      · unfold ctr wrOp; rcases c with c | c <;> rw [c2, c] <;> rfl
      · unfold ctr wrOp; rcases c with c | c <;> rw [c] <;> rfl
    · exact .inl e
  rw [h1, genTask, genTo_ctr h (plOk_of hA) _ _ _ _ (Nat.le_refl _), List.take_length]
  have h2 : (genStores size slots.toNat).filter ctr = [] := filter_noC (fun x hx => by
    obtain ⟨s, _, rfl⟩ := List.mem_map.1 hx
    exact .inl (by simp))
  simp only [h2, List.nil_append]
end Go.Proofs.Ytadaopfcgpfiiaa
namespace Go.Proofs.Ytadaopfcgpfiiaa
open Go.RowKit Go.Proofs.YtadaopfcgpfiiaaW.PrintWords Go.Proofs.YtadaopfcgpfiiaaW.PrintLast Go.Proofs.YtadaopfcgpfiiaaW.PrintMore PCg
set_option linter.unusedVariables false
set_option linter.unusedSimpArgs false
theorem size_wide {blks : List S49} (h : ∀ b ∈ blks, b.f0.length ≤ 30) : ∀ b ∈ blks, b.f0.length ≤ 9223372036854775806 := fun b hb => by have := h b hb; omega
end Go.Proofs.Ytadaopfcgpfiiaa
