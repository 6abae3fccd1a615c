/- Lemmas: what the theorem of the claim's last text needs, joined by a program out of the seat's texts D2, CM, D3, E0, E1, E2, E3, E4, E5, H0, H1. -/
import Derived.Test.YtadaopfcgpfiiaaBaseX24
import Derived.Test.YtadaopfcgpfiiaaBaseX17
import Derived.Test.YtadaopfcgpfiiaaBaseX14
import Derived.Test.YtadaopfcgpfiiaaBaseX18
import Derived.Test.YtadaopfcgpfiiaaBaseX20
import Derived.Test.YtadaopfcgpfiiaaBaseX25
namespace Go.Proofs.Ytadaopfcgpfiiaa
open Go.RowKit Go.Proofs.YtadaopfcgpfiiaaW.PrintWords Go.Proofs.YtadaopfcgpfiiaaW.PrintLast Go.Proofs.YtadaopfcgpfiiaaW.PrintMore PCg
set_option linter.unusedVariables false
set_option linter.unusedSimpArgs false
/-- what an instruction of a valid function gives -/
theorem insPre_of_ok {regs : Int} {arrs shared : List S44} {i : S51} (hr : 0 ≤ regs) (h : insOk regs arrs shared i = true) : insPre regs.toNat i := by
  have hn : ((regs.toNat : Nat) : Int) = regs := by omega
  unfold insOk xOk at h
  by_cases h16 : i.f0 = 1 ∨ i.f0 = 2 ∨ i.f0 = 3 ∨ i.f0 = 4 ∨ i.f0 = 5 ∨ i.f0 = 6 ∨ i.f0 = 7 ∨ i.f0 = 8 ∨ i.f0 = 9 ∨ i.f0 = 10 ∨ i.f0 = 11 ∨ i.f0 = 12 ∨ i.f0 = 13 ∨ i.f0 = 14 ∨ i.f0 = 15 ∨ i.f0 = 16
  · rcases h16 with e | e | e | e | e | e | e | e | e | e | e | e | e | e | e | e <;> rw [e] at h <;> simp [shp, regOk] at h <;> simp [insPre, defPre, regIn, e, hn] <;> omega
  · simp only [not_or] at h16
    simp [shp, h16] at h
/-- code is only added -/
def Ext (st st' : GSt) : Prop := ∃ l, st'.code = st.code ++ l
theorem Ext.refl (st : GSt) : Ext st st := ⟨[], by simp⟩
theorem Ext.trans {a b c : GSt} (h : Ext a b) (k : Ext b c) : Ext a c := by
  obtain ⟨l, h⟩ := h; obtain ⟨m, k⟩ := k
  exact ⟨l ++ m, by rw [k, h, List.append_assoc]⟩
theorem Ext.len {a b : GSt} (h : Ext a b) : a.code.length ≤ b.code.length := by
  obtain ⟨l, h⟩ := h
  rw [h, List.length_append]; omega
theorem ext_emit (st : GSt) (l : List S53) : Ext st (st.emit l) := ⟨l, rfl⟩
theorem ext_refer (st : GSt) (x : S53) (nm : ByteArray) : Ext st (st.refer x nm) := ⟨[x], rfl⟩
theorem ext_ite {c : Prop} [Decidable c] {st a b : GSt} (ha : Ext st a) (hb : Ext st b) : Ext st (if c then a else b) := by split; exact ha; exact hb
theorem genDef1_ext (sp : Int) (pl : List (Int × Int)) (m : ByteArray → Int) (st : GSt) (i : S51) : Ext st (genDef1 sp pl m st i) := by
  unfold genDef1
  repeat' refine ext_ite ?_ ?_
  all_goals first | exact ext_emit _ _ | exact (ext_emit _ _).trans (ext_refer _ _ _) | exact Ext.refl _
theorem genIns_ext (sp : Int) (pl : List (Int × Int)) (m : ByteArray → Int) (st : GSt) (i : S51) : Ext st (genIns sp pl m st i) := by
  unfold genIns
  repeat' refine ext_ite ?_ ?_
  all_goals first | exact ext_emit _ _ | exact (ext_emit _ _).trans (ext_refer _ _ _) | exact ext_refer _ _ _ | exact (genDef1_ext sp pl m st i).trans (ext_emit _ _)
theorem genCode_ext (sp : Int) (pl : List (Int × Int)) (m : ByteArray → Int) (l : List S51) : ∀ st : GSt, Ext st (genCode sp pl m st l) := by
  induction l with
  | nil => intro st; exact Ext.refl _
  | cons i l ih => intro st; exact (genIns_ext sp pl m st i).trans (ih _)
def PInv (nb : Int) (st : GSt) : Prop := (∀ p ∈ st.patches, (0 ≤ p.1 ∧ p.1 < st.code.length) ∧ 0 ≤ p.2 ∧ p.2 < nb) ∧ ∀ x ∈ st.starts, 0 ≤ x ∧ x ≤ st.code.length
theorem PInv.grow {nb : Int} {st st' : GSt} (h : PInv nb st) (hp : st'.patches = st.patches) (hs : st'.starts = st.starts) (he : Ext st st') : PInv nb st' := by
  have hl := he.len
  refine ⟨fun p hp' => ?_, fun x hx => ?_⟩
  · rw [hp] at hp'
    obtain ⟨⟨a, b⟩, c⟩ := h.1 p hp'
    exact ⟨⟨a, by omega⟩, c⟩
  · rw [hs] at hx
    obtain ⟨a, b⟩ := h.2 x hx
    exact ⟨a, by omega⟩
theorem PInv.emit {nb : Int} {st : GSt} (h : PInv nb st) (l : List S53) : PInv nb (st.emit l) := h.grow rfl rfl (ext_emit _ _)
theorem PInv.leap {nb : Int} {st : GSt} (h : PInv nb st) (x : S53) (b : Int) (h0 : 0 ≤ b) (h1 : b < nb) : PInv nb (st.leap x b) := by
  refine ⟨fun p hp => ?_, fun y hy => ?_⟩
  · simp only [GSt.leap, List.mem_append, List.mem_singleton] at hp
    simp only [GSt.leap, List.length_append, List.length_cons, List.length_nil]
    rcases hp with hp | rfl
    · obtain ⟨⟨a, b⟩, c⟩ := h.1 p hp
      exact ⟨⟨a, by omega⟩, c⟩
    · exact ⟨⟨by dsimp only; omega, by dsimp only; omega⟩, h0, h1⟩
  · obtain ⟨a, b⟩ := h.2 y hy
    simp only [GSt.leap, List.length_append, List.length_cons, List.length_nil]
    exact ⟨a, by omega⟩
theorem PInv.start {nb : Int} {st : GSt} (h : PInv nb st) : PInv nb st.start := by
  refine ⟨h.1, fun y hy => ?_⟩
  simp only [GSt.start, List.mem_append, List.mem_singleton] at hy
  rcases hy with hy | rfl
  · exact h.2 y hy
  · simp only [GSt.start]; omega
theorem PInv.blk {nb regs : Int} {arrs shared : List S44} {st : GSt} (h : PInv nb st) (sp : Int) (pl : List (Int × Int)) (m : ByteArray → Int) (k : Int) (b : S49) (hb : blkOk regs nb arrs shared b = true) : PInv nb (genBlk sp pl m st k b) := by
  obtain ⟨a1, a2, a3, a4⟩ := genCode_sz sp pl m b.f0 st.start
  have h2 := h.start.grow a4 a3 (genCode_ext sp pl m b.f0 st.start)
  simp only [blkOk, Bool.and_eq_true] at hb
  have he := hb.1
  unfold genBlk
  simp only
  generalize genCode sp pl m st.start b.f0 = st2 at *
  unfold endOk tgtOk at he
  split
  · exact h2.emit _
  · split
    · rename_i g3 g2
      rw [if_neg (by omega), if_pos g2] at he
      simp at he
      split
      · exact (h2.emit _).leap _ _ (by omega) (by omega)
      · exact ((h2.emit _).leap _ _ (by omega) (by omega)).leap _ _ (by omega) (by omega)
    · rename_i g3 g2
      split
      · exact h2
      · have g1 : b.f1 = 1 := by
          by_cases g1 : b.f1 = 1
          · exact g1
          · rw [if_neg g1, if_neg g2] at he
            simp at he
            exact absurd he.1.1.1 g3
        rw [if_pos g1] at he
        simp at he
        exact h2.leap _ _ (by omega) (by omega)
theorem allTo_get {n : Nat} {p : Int → Bool} (h : allTo n p = true) (k : Nat) (hk : k < n) : p k = true := by
  unfold allTo at h
  rw [List.all_eq_true] at h
  exact h k (List.mem_range.2 hk)
theorem irOk_facts {regs : Int} {arrs : List S44} {blks : List S49} {shared : List S44} (h : irOk regs arrs blks shared = true) :
    blks.length ≠ 0 ∧ 0 ≤ regs ∧ regs ≤ 10000 ∧ arrs.length ≤ 4 ∧ (∀ k : Nat, k < arrs.length → arrOkAt arrs shared k = true) ∧ (∀ k : Nat, k < shared.length → shOkAt shared k = true) ∧ ∀ k : Nat, k < blks.length → blkOk regs blks.length arrs shared (rd_T49 blks k) = true := by
  unfold irOk at h
  simp only [Bool.and_eq_true, decide_eq_true_eq] at h
  obtain ⟨⟨⟨⟨⟨⟨h1, h2⟩, h3⟩, h4⟩, h5⟩, h6⟩, h7⟩ := h
  exact ⟨h1, h2, h3, h4, fun k hk => allTo_get h5 k hk, fun k hk => allTo_get h6 k hk, fun k hk => allTo_get h7 k hk⟩
theorem genTo_inv {regs : Int} {arrs : List S44} {blks : List S49} {shared : List S44} (h : irOk regs arrs blks shared = true) (sp : Int) (pl : List (Int × Int)) (m : ByteArray → Int) (st : GSt) (hst : PInv blks.length st) (k : Nat) (hk : k ≤ blks.length) : PInv blks.length (genTo sp pl m blks st k) := by
  induction k with
  | zero => exact hst
  | succ k ih => exact (ih (by omega)).blk sp pl m k _ ((irOk_facts h).2.2.2.2.2.2 k (by omega))
theorem patchOk_task {regs : Int} {arrs : List S44} {blks : List S49} {shared : List S44} (h : irOk regs arrs blks shared = true) (addr : List Int) (size : Int) (places : List (Int × Int)) (slots : Int) (hs0 : 0 ≤ slots) (hs : slots ≤ 10000) (hb : blks.length ≤ 10000) (hsum : sumTo blks blks.length ≤ 50000) :
    patchOk (genTask arrs addr size blks places slots) := by
  have h0 : PInv blks.length (⟨genStores size slots.toNat, [], [], []⟩ : GSt) := ⟨fun p hp => by simp at hp, fun x hx => by simp at hx⟩
  have h1 := genTo_inv h size places (mapTo arrs addr arrs.length) _ h0 blks.length (Nat.le_refl _)
  obtain ⟨z1, z2, z3, z4⟩ := genTo_sz size places (mapTo arrs addr arrs.length) blks ⟨genStores size slots.toNat, [], [], []⟩ blks.length
  have hg : (genStores size slots.toNat).length ≤ 10000 := by simp only [genStores, List.length_map, List.length_range]; omega
  simp only [List.length_nil] at z1 z3
  refine ⟨fun p hp => ?_, fun x hx => ?_⟩
  · obtain ⟨a, b, c⟩ := h1.1 p hp
    refine ⟨a, b, ?_⟩
    have : (genTask arrs addr size blks places slots).starts.length = 0 + blks.length := z3
    omega
  · obtain ⟨a, b⟩ := h1.2 x hx
    exact ⟨a, by omega⟩
end Go.Proofs.Ytadaopfcgpfiiaa
namespace Go.Proofs.Ytadaopfcgpfiiaa
open Go.RowKit Go.Proofs.YtadaopfcgpfiiaaW.PrintWords Go.Proofs.YtadaopfcgpfiiaaW.PrintLast Go.Proofs.YtadaopfcgpfiiaaW.PrintMore PCg
set_option linter.unusedVariables false
set_option linter.unusedSimpArgs false
theorem infoArrM : (Try.prog.info? 44).map (fun i => (i.zero, i.size, i.bytes)) = some (some (.agg #[.string ⟨#[]⟩, .int .i64 0]), 2, 24) := by kernel_rfl
/-- the objects collected so far -/
structure MSt (w wr : World) (v : Value) (acc : List S44) : Prop where
  row : Kd.R k44 44 wr w.heap.size (fun _ => True) v acc
  below : Below w.heap.size w wr
theorem MSt.step {w wr w1 : World} {v : Value} {acc : List S44} (h : MSt w wr v acc) (hb : Below wr.heap.size wr w1) : MSt w w1 v acc := ⟨Kd.R_below h.row hb, below_step h.below hb⟩
theorem ment_len_le (l : List S49) : ∀ acc : List S44, (l.foldl mentB acc).length ≤ acc.length + (l.map (fun b => b.f0.length)).sum := by
  induction l with
  | nil => intro acc; simp
  | cons b l ih =>
    intro acc
    have h1 := mentB_len b.f0 acc
    have h2 := ih (mentB acc b)
    simp only [List.foldl_cons, List.map_cons, List.sum_cons]
    change (List.foldl mentI acc b.f0).length ≤ _ at h1
    have h3 : (mentB acc b).length = (List.foldl mentI acc b.f0).length := rfl
    omega
theorem sum_take_le (l : List Nat) (k : Nat) : (l.take k).sum ≤ l.sum := by
  conv => rhs; rw [← List.take_append_drop k l, List.sum_append]
  exact Nat.le_add_right _ _
set_option maxRecDepth 100000 in
set_option maxHeartbeats 8000000 in
theorem mentioned_any (nm : ByteArray) (regs : Int) (A : Option Addr) (n c : Nat) (A3 : Option Addr) (c3 : Nat) (blks : List S49) (w : World)
    (hr3 : Kd.C k49 w A3 blks.length blks) (hcp3 : blks.length ≤ c3) (hm3 : blks.length ≤ 10000) (hsum : (blks.map (fun b => b.f0.length)).sum ≤ 50000) :
    Calls Try.prog 27 #[.agg #[.string nm, .int .i64 regs, .slice A n c, .slice A3 blks.length c3]] w
      fun e w' => ∃ A2 c2, e = .returned (.slice A2 (mentL blks).length c2) ∧ (mentL blks).length ≤ c2 ∧ Kd.C k44 w' A2 (mentL blks).length (mentL blks) ∧ Below w.heap.size w w' := by
  have HR3 := Aside0.mk hr3; have HSUM := Aside0.mk hsum
  clear hr3 hsum
  have hu := Try.underlying25
  have hu3 := Try.underlying51
  have hu4 := Try.underlying44
  have hu5 := Try.underlying49
  have HBA := Aside0.mk (below_alloc (Below.refl w.heap.size w) (.cells #[.string nm, .int .i64 regs, .slice A n c, .slice A3 blks.length c3] 25))
  go_enter Try.func27, Try.ntmps27
  go_wp2_with fail
  go_loopw [3, 12] (fun v i wr => ∃ k : Int, i = .int .i64 k ∧ 0 ≤ k ∧ k ≤ blks.length ∧ Aside0 (MSt w wr v ((blks.take k.toNat).foldl mentB []))) (fun _ i wr => blks.length - (intOf i).toNat)
  case atStart => exact ⟨0, rfl, Int.le_refl _, by omega, ⟨Kd.R_nil _ _ _ _ _, HBA.out⟩⟩
  case round =>
    obtain ⟨k, rfl, hk0, hk, HE⟩ := hrel
    obtain ⟨acc0, hacc⟩ : ∃ a, (blks.take k.toNat).foldl mentB [] = a := ⟨_, rfl⟩
    rw [hacc] at HE
    have HAC := Aside0.mk hacc; clear hacc
    obtain ⟨Ax, cx, rfl⟩ := Kd.R_slice HE.out.row
    by_cases hlt : k < blks.length
    · obtain ⟨b, hb⟩ : ∃ b, rd_T49 blks k = b := ⟨_, rfl⟩
      have hbg : blks[k.toNat]'(by omega) = b := by
        rw [← hb]; simp only [rd_T49, List.getD_eq_getElem?_getD]
        rw [List.getElem?_eq_getElem (by omega)]; rfl
      have HACB := Aside0.mk (show ∀ q : Nat, k.toNat = q → (blks.take (q + 1)).foldl mentB [] = b.f0.foldl mentI acc0 from fun q hq => by
        subst hq
        rw [List.take_add_one, List.getElem?_eq_getElem (by omega), hbg]
        simp only [Option.toList_some, List.foldl_append, List.foldl_cons, List.foldl_nil, HAC.out]
        rfl)
      have HL0 := Aside0.mk (show acc0.length + b.f0.length ≤ 60000 by
        have h1 := ment_len_le (blks.take (k.toNat + 1)) []
        have h2 := ment_len_le (blks.take k.toNat) []
        have h3 := sum_take_le (blks.map (fun b => b.f0.length)) (k.toNat + 1)
        have h4 := HSUM.out
        rw [HAC.out] at h2
        rw [List.take_add_one, List.getElem?_map, List.getElem?_eq_getElem (by omega), hbg] at h3
        simp only [Option.map_some, Option.toList_some, List.sum_append, List.sum_cons, List.sum_nil, List.length_nil, List.map_take] at h2 h3
        omega)
      have HBw := Aside0.mk HE.out.below
      obtain ⟨ad, Ai, ci, hA, x0, x1, x2, x3, x4, hci, hCi⟩ := at_T49 HR3.out k hk0 hlt
      cases hA
      rw [hb] at x0 x1 x2 x3 x4 hci hCi
      replace x0 := (HBw.out.cell (World.block_lt_of_cell? w _ x0)).trans x0
      replace x1 := (HBw.out.cell (World.block_lt_of_cell? w _ x1)).trans x1
      replace x2 := (HBw.out.cell (World.block_lt_of_cell? w _ x2)).trans x2
      replace x3 := (HBw.out.cell (World.block_lt_of_cell? w _ x3)).trans x3
      replace x4 := (HBw.out.cell (World.block_lt_of_cell? w _ x4)).trans x4
      have HCI := Aside0.mk hCi
      have p110 := eq_true hk0
      have q110 := eq_true hlt
      clear hCi hbg hb
      have hbl : b.f0.length ≤ 60000 := by have := HL0.out; omega
      go_wp2_with fail
      have HE1 := Aside0.mk (HE.out.step (below_alloc (Below.refl _ _) (.cells #[.slice Ai b.f0.length ci, .int .u8 b.f1, .int .i64 b.f2, .int .i64 b.f3, .int .i64 b.f4] 49)))
      clear x0 x1 x2 x3 x4
      go_loopw [3, 19] (fun v i wr5 => ∃ j : Int, i = .int .i64 j ∧ 0 ≤ j ∧ j ≤ b.f0.length ∧ Aside0 (MSt w wr5 v ((b.f0.take j.toNat).foldl mentI acc0))) (fun _ i wr5 => b.f0.length - (intOf i).toNat)
      case atStart => exact ⟨0, rfl, Int.le_refl _, by omega, HE1⟩
      case round =>
        obtain ⟨j, rfl, hj0, hj, HE5⟩ := hrel
        obtain ⟨acc, hacc⟩ : ∃ a, (b.f0.take j.toNat).foldl mentI acc0 = a := ⟨_, rfl⟩
        rw [hacc] at HE5
        have HAC5 := Aside0.mk hacc; clear hacc
        obtain ⟨Ay, cy, rfl⟩ := Kd.R_slice HE5.out.row
        by_cases hltj : j < b.f0.length
        · obtain ⟨ai, hA2, y0, y1, y2, y3, y4, y5⟩ := at_T51 HCI.out j hj0 hltj
          cases hA2
          replace y0 := (HE5.out.below.cell (World.block_lt_of_cell? w _ y0)).trans y0
          replace y1 := (HE5.out.below.cell (World.block_lt_of_cell? w _ y1)).trans y1
          replace y2 := (HE5.out.below.cell (World.block_lt_of_cell? w _ y2)).trans y2
          replace y3 := (HE5.out.below.cell (World.block_lt_of_cell? w _ y3)).trans y3
          replace y4 := (HE5.out.below.cell (World.block_lt_of_cell? w _ y4)).trans y4
          replace y5 := (HE5.out.below.cell (World.block_lt_of_cell? w _ y5)).trans y5
          have p111 := eq_true hj0
          have q111 := eq_true hltj
          obtain ⟨i, hi⟩ : ∃ i, rd_T51 b.f0 j = i := ⟨_, rfl⟩
          rw [hi] at y0 y1 y2 y3 y4 y5
          have HAL := Aside0.mk (show acc.length ≤ 60000 by
            have h1 := mentB_len (b.f0.take j.toNat) acc0
            rw [HAC5.out, List.length_take] at h1
            have := HL0.out
            omega)
          have HST := Aside0.mk (show (b.f0.take (j + 1).toNat).foldl mentI acc0 = mentI acc i from by
            rw [show (j + 1).toNat = j.toNat + 1 from by omega, List.take_add_one, List.getElem?_eq_getElem (by omega)]
            simp only [Option.toList_some, List.foldl_append, List.foldl_cons, List.foldl_nil]
            rw [HAC5.out, ← hi]
            simp only [rd_T51, List.getD_eq_getElem?_getD]
            rw [List.getElem?_eq_getElem (by omega)]
            rfl)
          clear hi
          obtain ⟨_, hcacc, hCacc⟩ := Kd.R_reads' HE5.out.row
          have HCA := Aside0.mk hCacc
          have HCN := Aside0.mk (fun (r : Bool) (hr : memA acc i.f5 1 = r) (W : World) (hC : Kd.C k44 W Ay acc.length acc) => hr ▸ api_Array_45.calls (acc.length + 1) Ay cy acc i.f5 1 _ W hC hcacc (contains_f acc i.f5 1 (by have := HAL.out; omega) _ (by omega)))
          clear hCacc
          by_cases hsh : isShr i.f0 = true
          · have hop : i.f0 = 6 ∨ i.f0 = 7 ∨ i.f0 = 11 ∨ i.f0 = 12 := by simpa [isShr, or_assoc] using hsh
            have HSH := Aside0.mk hsh; clear hsh
            rcases hop with hop | hop | hop | hop
            all_goals
              rw [hop] at y0
              go_wp2_with fail
              have hm1 := fun o => below_alloc (Below.refl wr.heap.size wr) o
              cases hn : memA acc i.f5 1 with
              | true =>
                refine (HCN.out true hn _ (Kd.C_below HCA.out (below_then (below_alloc (Below.refl _ _) _) (by simp) (below_alloc (Below.refl _ _) _)))).mono ?_
                rintro e w6 ⟨rfl, hb6⟩
                have HE6 := Aside0.mk (HE5.out.step (below_step (below_then (below_alloc (Below.refl _ _) _) (by simp) (below_alloc (Below.refl _ _) _)) hb6))
                clear y0 y1 y2 y3 y4 y5 hb6 hm1
                go_wp2
                go_roundw
                case rel => exact ⟨j + 1, rfl, by omega, by omega, ⟨by rw [HST.out]; unfold mentI; rw [if_pos HSH.out, if_pos hn]; exact HE6.out.row, HE6.out.below⟩⟩
                case measure => simp [intOf]; omega
              | false =>
                refine (HCN.out false hn _ (Kd.C_below HCA.out (below_then (below_alloc (Below.refl _ _) _) (by simp) (below_alloc (Below.refl _ _) _)))).mono ?_
                rintro e w6 ⟨rfl, hb6⟩
                have HE6 := Aside0.mk (HE5.out.step (below_step (below_then (below_alloc (Below.refl _ _) _) (by simp) (below_alloc (Below.refl _ _) _)) hb6))
                have HXB := Aside0.mk (blk_below (heap_alloc_at (wr.alloc (.cells #[_, .int .i64 i.f1, .int .i64 i.f2, .int .i64 i.f3, .int .i64 i.f4, .string i.f5] 51)) (.cells #[.string i.f5, .int .i64 1] 44) (wr.heap.size + 1) (by simp)) hb6)
                obtain ⟨v0, v1⟩ := blk2 HXB.out
                have hlX := blk_lt HXB.out
                clear y0 y1 y2 y3 y4 y5 hb6 hm1
                have HAL1 := Aside0.mk (show acc.length + 1 ≤ 100000 by have := HAL.out; omega)
                go_wp2_with (at_builtin; refine Kd.R_append k44 (w0 := w) w.heap.size rfl (.tmp 37) (.tmp 39) 22 44 _ 24 rfl Try.underlying22 infoArrM rfl (by decide) (by decide) (.slice Ay acc.length cy) acc ⟨i.f5, 1⟩ [.string i.f5, .int .i64 1] (fun _ => True) (fun _ => False) rfl rfl ?bP (fun _ hk => hk.elim) ?bF ?bO ?bB ?bS ?bL ?_; (case bP => exact k44_mkM _ _ _ ⟨i.f5, 1⟩); (case bF => (intro b hb; trivial)); (case bO => exact HE6.out.row); (case bB => exact HE6.out.below); (case bS => exact HE6.out.below.size); (case bL => (have := HAL1.out; omega)); intro v8 w8 hR8 hB8 hg8 hat8; have HR8 := Aside0.mk hR8; have HB8 := Aside0.mk hB8; clear hR8 hB8 hg8 hat8)
                go_roundw
                case rel => exact ⟨j + 1, rfl, by omega, by omega, ⟨by rw [HST.out]; unfold mentI; rw [if_pos HSH.out, if_neg (by rw [hn]; decide)]; exact HR8.out, HB8.out⟩⟩
                case measure => simp [intOf]; omega
          · have HSH : Aside0 (mentI acc i = acc) := ⟨by unfold mentI; rw [if_neg hsh]⟩
            have hne : (i.f0 ≠ 6 ∧ i.f0 ≠ 7) ∧ i.f0 ≠ 11 ∧ i.f0 ≠ 12 := by
              simp only [isShr, Bool.or_eq_true, beq_iff_eq, not_or] at hsh
              omega
            have e6 := beq_eq_false_iff_ne.2 hne.1.1
            have e7 := beq_eq_false_iff_ne.2 hne.1.2
            have e11 := beq_eq_false_iff_ne.2 hne.2.1
            have e12 := beq_eq_false_iff_ne.2 hne.2.2
            clear hne hsh
            go_wp2_with fail
            go_roundw
            case rel => exact ⟨j + 1, rfl, by omega, by omega, ⟨by rw [HST.out, HSH.out]; exact (HE5.out.step (below_alloc (Below.refl _ _) _)).row, (HE5.out.step (below_alloc (Below.refl _ _) _)).below⟩⟩
            case measure => simp [intOf]; omega
        · have q111 := eq_false hltj
          have HFIN := Aside0.mk (show acc = (blks.take (k + 1).toNat).foldl mentB [] from by
            rw [show (k + 1).toNat = k.toNat + 1 from by omega, HACB.out k.toNat rfl, ← HAC5.out, List.take_of_length_le (by omega)])
          go_wp2_with fail
          go_roundw
          case rel => exact ⟨k + 1, rfl, by omega, by omega, ⟨by rw [← HFIN.out]; exact HE5.out.row, HE5.out.below⟩⟩
          case measure => simp [intOf]; omega
    · have q110 := eq_false hlt
      have HML := Aside0.mk (show acc0 = mentL blks from by rw [← HAC.out, List.take_of_length_le (by omega)]; rfl)
      obtain ⟨_, hcacc, hCacc⟩ := Kd.R_reads' HE.out.row
      have HCA := Aside0.mk hCacc
      have HCC := Aside0.mk hcacc
      clear hCacc
      go_wp2
      go_ret
      refine ⟨Ax, cx, by rw [← HML.out]; rfl, by rw [← HML.out]; exact HCC.out, ?_, HE.out.below⟩
      rw [← HML.out]; exact HCA.out
end Go.Proofs.Ytadaopfcgpfiiaa
namespace Go.Proofs.Ytadaopfcgpfiiaa
open Go.RowKit Go.Proofs.YtadaopfcgpfiiaaW.PrintWords Go.Proofs.YtadaopfcgpfiiaaW.PrintLast Go.Proofs.YtadaopfcgpfiiaaW.PrintMore PCg
set_option linter.unusedVariables false
set_option linter.unusedSimpArgs false
theorem sumTo_take (blks : List S49) (k : Nat) (hk : k ≤ blks.length) : sumTo blks k = ((blks.take k).map (fun b => b.f0.length)).sum := by
  induction k with
  | zero => rfl
  | succ k ih =>
    rw [sumTo, ih (by omega), List.take_add_one, List.getElem?_eq_getElem (by omega)]
    simp only [Option.toList_some, List.map_append, List.map_cons, List.map_nil, List.sum_append, List.sum_cons, List.sum_nil, rd_T49, List.getD_eq_getElem?_getD]
    rw [show ((k : Int)).toNat = k from by omega, List.getElem?_eq_getElem (by omega)]
    simp
theorem sumTo_all (blks : List S49) : sumTo blks blks.length = (blks.map (fun b => b.f0.length)).sum := by
  rw [sumTo_take blks _ (Nat.le_refl _), List.take_length]
theorem len_le_sum {blks : List S49} {b : S49} (h : b ∈ blks) : b.f0.length ≤ (blks.map (fun b => b.f0.length)).sum :=
by
  induction blks with
  | nil => simp at h
  | cons c l ih =>
    rw [List.map_cons, List.sum_cons]
    rcases List.mem_cons.1 h with rfl | h
    · omega
    · have := ih h; omega
theorem mentL_len (blks : List S49) : ∀ acc, (blks.foldl mentB acc).length ≤ acc.length + (blks.map (fun b => b.f0.length)).sum := by
  induction blks with
  | nil => intro acc; simp
  | cons b l ih =>
    intro acc
    have h1 := ih (mentB acc b)
    have h2 := mentB_len b.f0 acc
    simp only [List.foldl_cons, List.map_cons, List.sum_cons, mentB] at *
    omega
theorem layA_bound (arrs : List S44) (M : Int) (hM0 : 0 ≤ M) (hM : M ≤ 1000000000000) (h : ∀ k : Nat, k < arrs.length → (rd_T44 arrs k).f1 ≤ M) (k : Nat) (hk : k ≤ arrs.length) (hk2 : k ≤ 1000) : 0 ≤ layA arrs k ∧ layA arrs k ≤ k * M := by
  induction k with
  | zero => simp [layA]
  | succ k ih =>
    obtain ⟨h1, h2⟩ := ih (by omega) (by omega)
    have h3 := h k (by omega)
    have hm : 0 ≤ mx (rd_T44 arrs (k : Int)).f1 0 ∧ mx (rd_T44 arrs (k : Int)).f1 0 ≤ M := by unfold mx; split <;> omega
    have h5 : (k : Int) * M ≤ 1000 * M := Int.mul_le_mul_of_nonneg_right (by omega) hM0
    have h4 : ((k + 1 : Nat) : Int) * M = (k : Int) * M + M := by rw [Int.natCast_add, Int.add_mul]; simp
    rw [layA, w64 (by omega)]
    omega
theorem layAll_wf (arrs : List S44) (k : Nat) : ∀ x ∈ layAll arrs k, (Lit.int .i64 x).wf = true := by
  intro x hx
  simp only [layAll, List.mem_map] at hx
  obtain ⟨j, _, rfl⟩ := hx
  cases j with
  | zero => rfl
  | succ j => exact wrap64_wf _
theorem task_alloc (P : List (Int × Int) → Int → Prop) (nm : ByteArray) (regs : Int) (A : Option Addr) (c : Nat) (arrs : List S44) (A3 : Option Addr) (c3 : Nat) (blks : List S49) (w : World)
    (hr : Kd.C k44 w A arrs.length arrs) (hcp : arrs.length ≤ c) (hr3 : Kd.C k49 w A3 blks.length blks) (hcp3 : blks.length ≤ c3)
    (hal : arrs.length ≤ 1000000) (hm3 : blks.length ≤ 10000) (hsum : (blks.map (fun b => b.f0.length)).sum ≤ 50000) (hns : ∀ a ∈ arrs, a.f0.size ≤ maxLen) (hnb : ∀ b ∈ blks, ∀ i ∈ b.f0, i.f5.size ≤ maxLen)
    (hA : irOk regs arrs blks (mentL blks) = true → ∀ W, Below w.heap.size w W → Calls Try.prog 28 #[.agg #[.string nm, .int .i64 regs, .slice A arrs.length c, .slice A3 blks.length c3]] W
      fun e W' => ∃ places slots Ap cp, P places slots ∧ e = .returned (.tuple #[.agg #[.slice Ap places.length cp, .int .i64 slots], .int .i64 0]) ∧ Kd.C kTwo W' Ap places.length places ∧ AllocOk regs places slots ∧ Below W.heap.size W W') :
    Calls Try.prog 12 #[.agg #[.string nm, .int .i64 regs, .slice A arrs.length c, .slice A3 blks.length c3]] w
      fun e w' => (irOk regs arrs blks (mentL blks) = false ∧ e = .returned (.tuple #[zeroObj, .int .i64 3]) ∧ Below w.heap.size w w') ∨
        (irOk regs arrs blks (mentL blks) = true ∧ ∃ places slots, P places slots ∧ AllocOk regs places slots ∧ TaskOut nm arrs (layAll arrs arrs.length) (layA arrs arrs.length) blks places slots e w w') := by
  have hml : (mentL blks).length ≤ 50000 := by
    have := mentL_len blks []
    simp only [List.length_nil] at this
    unfold mentL
    omega
  refine task_any P (200001 + (blks.map (fun b => 2 * b.f0.length + 2)).sum + 1 + 1000000) nm regs A c arrs A3 c3 blks (mentL blks) (layAll arrs arrs.length) (layA arrs arrs.length) w hr hcp hr3 hcp3 hm3 (fun b hb => by have := len_le_sum hb; omega)
    ?_ (by omega) (layout_f arrs hal _ (by omega)) ?_ (layAll_len _ _) (fun h => by have := (irOk_facts h).2.2.2.1; omega) hns (layAll_wf _ _) ?_ (by rw [sumTo_all]; exact hsum) ?_ hA
  · exact fun W hW => mentioned_any nm regs A arrs.length c A3 c3 blks W (Kd.C_below hr3 hW) hcp3 hm3 (by omega)
  · intro h
    obtain ⟨_, _, _, h4, h5, _⟩ := irOk_facts h
    have hb := layA_bound arrs 32 (by omega) (by omega) (fun k hk => by
      have := h5 k hk
      simp only [arrOkAt, Bool.and_eq_true, decide_eq_true_eq] at this
      exact this.1.1.2) arrs.length (Nat.le_refl _) (by omega)
    exact ⟨hb.1, by have : ((arrs.length : Nat) : Int) ≤ 4 := by omega
                    have := hb.2; omega⟩
  · intro h b hb
    obtain ⟨_, h2, _, _, _, _, h7⟩ := irOk_facts h
    obtain ⟨k, hk, rfl⟩ := List.getElem_of_mem hb
    have h8 := h7 k hk
    have e : rd_T49 blks (k : Int) = blks[k] := by simp [rd_T49, hk]
    rw [e] at h8
    simp only [blkOk, Bool.and_eq_true, List.all_eq_true] at h8
    refine ⟨fun i hi => ⟨insPre_of_ok h2 (h8.2 i hi), hnb _ hb i hi⟩, fun h9 => ?_⟩
    have h10 := h8.1
    unfold endOk at h10
    rw [if_neg (by omega), if_pos h9] at h10
    simp at h10
    exact ⟨h10.1.2, by omega⟩
  · intro h places slots hAO
    exact patchOk_task h _ _ places slots hAO.2.1 hAO.2.2.1 hm3 (by rw [sumTo_all]; exact hsum)
end Go.Proofs.Ytadaopfcgpfiiaa
namespace Go.Proofs.Ytadaopfcgpfiiaa
open Go.RowKit Go.Proofs.YtadaopfcgpfiiaaW.PrintWords Go.Proofs.YtadaopfcgpfiiaaW.PrintLast Go.Proofs.YtadaopfcgpfiiaaW.PrintMore PCg
set_option linter.unusedVariables false
set_option linter.unusedSimpArgs false
/-- the bits of a word -/
def bw (x : Int) : BitVec 64 := BitVec.ofInt 64 x
theorem u64_wrap (n : Nat) (h : n < 18446744073709551616) : IntKind.u64.wrap (n : Int) = n := by rw [IntKind.wrap_u64]; omega
theorem bw_toNat (v : BitVec 64) : bw (v.toNat : Int) = v := by
  apply BitVec.eq_of_toNat_eq
  simp [bw]
theorem bits_or64 (x y : Int) : Go.bits .or .u64 x y = ((bw x ||| bw y).toNat : Int) := by
  show IntKind.u64.wrap ((bw x ||| bw y).toNat : Int) = _
  exact u64_wrap _ (bw x ||| bw y).isLt
theorem bits_andNot64 (x y : Int) : Go.bits .andNot .u64 x y = ((bw x &&& ~~~ bw y).toNat : Int) := by
  show IntKind.u64.wrap ((bw x &&& ~~~ bw y).toNat : Int) = _
  exact u64_wrap _ (bw x &&& ~~~ bw y).isLt
theorem bw_or (x y : Int) : bw (Go.bits .or .u64 x y) = bw x ||| bw y := by rw [bits_or64, bw_toNat]
theorem bw_andNot (x y : Int) : bw (Go.bits .andNot .u64 x y) = bw x &&& ~~~ bw y := by rw [bits_andNot64, bw_toNat]
/-- a word lies under another -/
def bwLe (x y : Int) : Prop := bw x ||| bw y = bw y
theorem bwLe.refl (x : Int) : bwLe x x := by simp [bwLe]
theorem bwLe.trans {x y z : Int} (h : bwLe x y) (k : bwLe y z) : bwLe x z := by
  unfold bwLe at *
  rw [← k, ← BitVec.or_assoc, h]
theorem bwLe_or_left (x y : Int) : bwLe x (Go.bits .or .u64 x y) := by
  unfold bwLe
  rw [bw_or, ← BitVec.or_assoc, BitVec.or_self]
theorem bwLe_or {x y : Int} (h : bwLe x y) (z : Int) : bwLe (Go.bits .or .u64 x z) (Go.bits .or .u64 y z) := by
  unfold bwLe at *
  rw [bw_or, bw_or, ← h]
  ext i hi
  simp only [BitVec.getElem_or, BitVec.getElem_and, BitVec.getElem_not]
  cases (bw x)[i] <;> cases (bw y)[i] <;> cases (bw z)[i] <;> decide
theorem bwLe_andNot {x y : Int} (h : bwLe x y) (z : Int) : bwLe (Go.bits .andNot .u64 x z) (Go.bits .andNot .u64 y z) := by
  unfold bwLe at *
  rw [bw_andNot, bw_andNot, ← h]
  ext i hi
  simp only [BitVec.getElem_or, BitVec.getElem_and, BitVec.getElem_not]
  cases (bw x)[i] <;> cases (bw y)[i] <;> cases (bw z)[i] <;> decide
end Go.Proofs.Ytadaopfcgpfiiaa
namespace Go.Proofs.Ytadaopfcgpfiiaa
open Go.RowKit Go.Proofs.YtadaopfcgpfiiaaW.PrintWords Go.Proofs.YtadaopfcgpfiiaaW.PrintLast Go.Proofs.YtadaopfcgpfiiaaW.PrintMore PCg
set_option linter.unusedVariables false
set_option linter.unusedSimpArgs false
def setAdd (s : List Int) (r : Int) : List Int := s.set (r / 64).toNat (Go.bits .or .u64 (rd s (r / 64)) (shl .u64 1 (r % 64)))
def setDel (s : List Int) (r : Int) : List Int := s.set (r / 64).toNat (Go.bits .andNot .u64 (rd s (r / 64)) (shl .u64 1 (r % 64)))
theorem tdiv64 {r : Int} (h : 0 ≤ r) : Int.tdiv r 64 = r / 64 := Int.tdiv_eq_ediv_of_nonneg h
theorem tmod64 {r : Int} (h : 0 ≤ r) : Int.tmod r 64 = r % 64 := Int.tmod_eq_emod_of_nonneg h
theorem setAdd_f {s : List Int} {r : Int} (h0 : 0 ≤ r) (h1 : r < 64 * s.length) (h2 : s.length ≤ 1000000) : liveness_set_add.f s r = some (setAdd s r) := by
  unfold liveness_set_add.f
  rw [tdiv64 h0, tmod64 h0, w64 (n := r / 64) (by omega), if_pos (by omega), if_pos (by omega), if_pos (by omega)]
  rfl
theorem setDel_f {s : List Int} {r : Int} (h0 : 0 ≤ r) (h1 : r < 64 * s.length) (h2 : s.length ≤ 1000000) : liveness_set_remove.f s r = some (setDel s r) := by
  unfold liveness_set_remove.f
  rw [tdiv64 h0, tmod64 h0, w64 (n := r / 64) (by omega), if_pos (by omega), if_pos (by omega), if_pos (by omega)]
  rfl
theorem setAdd_len (s : List Int) (r : Int) : (setAdd s r).length = s.length := by simp [setAdd]
theorem setDel_len (s : List Int) (r : Int) : (setDel s r).length = s.length := by simp [setDel]
/-- a set lies under another -/
def sLe (s t : List Int) : Prop := s.length = t.length ∧ ∀ i : Nat, i < s.length → bwLe (s.getD i 0) (t.getD i 0)
theorem sLe.refl (s : List Int) : sLe s s := ⟨rfl, fun i _ => bwLe.refl _⟩
theorem sLe.trans {s t u : List Int} (h : sLe s t) (k : sLe t u) : sLe s u := ⟨h.1.trans k.1, fun i hi => (h.2 i hi).trans (k.2 i (by rw [← h.1]; exact hi))⟩
theorem sLe.set {s t : List Int} (h : sLe s t) (j : Nat) {u v : Int} (hv : bwLe u v) : sLe (s.set j u) (t.set j v) := by
  refine ⟨by simp [h.1], fun i hi => ?_⟩
  have hi' : i < s.length := by simpa using hi
  have hi2 : i < t.length := by rw [← h.1]; exact hi'
  have h2 := h.2 i hi'
  simp only [List.getD_eq_getElem?_getD, List.getElem?_set] at h2 ⊢
  by_cases e : j = i
  · subst e
    rw [if_pos rfl, if_pos rfl, if_pos hi', if_pos hi2]
    exact hv
  · rw [if_neg e, if_neg e]
    exact h2
theorem sLe.add {s t : List Int} (h : sLe s t) {r : Int} (h0 : 0 ≤ r) (h1 : r < 64 * s.length) : sLe (setAdd s r) (setAdd t r) :=
  h.set _ (bwLe_or (h.2 (r / 64).toNat (by omega)) _)
theorem sLe.del {s t : List Int} (h : sLe s t) {r : Int} (h0 : 0 ≤ r) (h1 : r < 64 * s.length) : sLe (setDel s r) (setDel t r) :=
  h.set _ (bwLe_andNot (h.2 (r / 64).toNat (by omega)) _)
end Go.Proofs.Ytadaopfcgpfiiaa
namespace Go.Proofs.Ytadaopfcgpfiiaa
open Go.RowKit Go.Proofs.YtadaopfcgpfiiaaW.PrintWords Go.Proofs.YtadaopfcgpfiiaaW.PrintLast Go.Proofs.YtadaopfcgpfiiaaW.PrintMore PCg
set_option linter.unusedVariables false
set_option linter.unusedSimpArgs false
/-- the registers that are live ahead of an instruction -/
def beforeL (i : S51) (s : List Int) : List Int := (usesL i).foldl setAdd (if (shp i.f0).d = true then setDel s i.f1 else s)
theorem adds_len (l : List Int) : ∀ s : List Int, (l.foldl setAdd s).length = s.length := by
  induction l with
  | nil => intro s; rfl
  | cons r l ih => intro s; rw [List.foldl_cons, ih, setAdd_len]
theorem beforeL_len (i : S51) (s : List Int) : (beforeL i s).length = s.length := by
  unfold beforeL
  rw [adds_len]
  split
  · exact setDel_len _ _
  · rfl
theorem adds_go (us : List Int) (hl : us.length ≤ 1000000) : ∀ n j fuel : Nat, ∀ s : List Int, j + n = us.length → n < fuel → s.length ≤ 1000000 → (∀ r ∈ us, 0 ≤ r ∧ r < 64 * s.length) →
    liveness_before.l0 fuel s us (us.length : Int) (j : Int) = some ((us.drop j).foldl setAdd s) := by
  intro n
  induction n with
  | zero =>
    intro j fuel s hj hf hs hr
    obtain ⟨f, rfl⟩ : ∃ f, fuel = f + 1 := ⟨fuel - 1, by omega⟩
    unfold liveness_before.l0
    rw [if_neg (by omega), List.drop_eq_nil_of_le (by omega)]
    rfl
  | succ n ih =>
    intro j fuel s hj hf hs hr
    obtain ⟨f, rfl⟩ : ∃ f, fuel = f + 1 := ⟨fuel - 1, by omega⟩
    have hjl : j < us.length := by omega
    have he : rd us (j : Int) = us[j] := by simp [rd, hjl]
    obtain ⟨h0, h1⟩ := hr _ (List.getElem_mem hjl)
    unfold liveness_before.l0
    rw [if_pos (by omega), if_pos (by omega), if_pos (by omega), he, setAdd_f h0 h1 hs, Option.bind_some, w64 (n := (j : Int) + 1) (by omega)]
    rw [List.drop_eq_getElem_cons hjl, List.foldl_cons]
    exact ih (j + 1) f (setAdd s us[j]) (by omega) (by omega) (by rw [setAdd_len]; exact hs) (fun r hr' => by rw [setAdd_len]; exact hr r hr')
theorem before_f (regs : Int) (i : S51) (s : List Int) (hi : insWf regs i) (hr : regs ≤ 64 * s.length) (hs : s.length ≤ 1000000) : liveness_before.f 4 i.f0 i.f1 i.f2 i.f3 i.f4 i.f5 s = some (beforeL i s) := by
  obtain ⟨_, _, hu⟩ := hi
  have hd : ir_Defines.f 4 i.f0 i.f1 i.f2 i.f3 i.f4 i.f5 = some (if (shp i.f0).d then i.f1 else 0, (shp i.f0).d) := ir_Defines.mono _ _ _ _ _ _ 3 _ (defines_f i)
  have hl := usesL_len i
  have key : ∀ t : List Int, t.length = s.length → liveness_before.j0 4 t i.f0 i.f1 i.f2 i.f3 i.f4 i.f5 = some ((usesL i).foldl setAdd t) := by
    intro t ht
    show (ir_Uses.f 3 i.f0 i.f1 i.f2 i.f3 i.f4 i.f5).bind (fun t180 => liveness_before.l0 3 t t180 (t180.length : Int) 0) = _
    rw [uses_f i, Option.bind_some]
    have h := adds_go (usesL i) (by omega) (usesL i).length 0 3 t (by omega) (by omega) (by omega) (fun r hr' => by
      have := hu r (List.mem_append.2 (.inl hr'))
      rw [ht]; omega)
    exact h
  unfold liveness_before.f beforeL
  rw [hd, Option.bind_some]
  cases hsd : (shp i.f0).d with
  | false => simp only [Bool.false_eq_true, if_false]; exact key s rfl
  | true =>
    have h1 := hu i.f1 (List.mem_append.2 (.inr (by simp [defL, hsd])))
    simp only [if_true]
    rw [setDel_f h1.1 (by omega) hs, Option.bind_some]
    exact key _ (setDel_len _ _)
theorem adds_mono (l : List Int) : ∀ s t : List Int, sLe s t → (∀ r ∈ l, 0 ≤ r ∧ r < 64 * s.length) → sLe (l.foldl setAdd s) (l.foldl setAdd t) := by
  induction l with
  | nil => intro s t h _; exact h
  | cons r l ih =>
    intro s t h hr
    obtain ⟨h0, h1⟩ := hr r (List.mem_cons_self ..)
    exact ih _ _ (h.add h0 h1) (fun q hq => by rw [setAdd_len]; exact hr q (List.mem_cons_of_mem _ hq))
theorem beforeL_mono {regs : Int} {i : S51} {s t : List Int} (hi : insWf regs i) (hr : regs ≤ 64 * s.length) (h : sLe s t) : sLe (beforeL i s) (beforeL i t) := by
  obtain ⟨_, _, hu⟩ := hi
  unfold beforeL
  cases hsd : (shp i.f0).d with
  | false =>
    simp only [Bool.false_eq_true, if_false]
    exact adds_mono _ _ _ h (fun r hr' => by have := hu r (List.mem_append.2 (.inl hr')); omega)
  | true =>
    have h1 := hu i.f1 (List.mem_append.2 (.inr (by simp [defL, hsd])))
    simp only [if_true]
    exact adds_mono _ _ _ (h.del h1.1 (by omega)) (fun r hr' => by rw [setDel_len]; have := hu r (List.mem_append.2 (.inl hr')); omega)
end Go.Proofs.Ytadaopfcgpfiiaa
namespace Go.Proofs.Ytadaopfcgpfiiaa
open Go.RowKit Go.Proofs.YtadaopfcgpfiiaaW.PrintWords Go.Proofs.YtadaopfcgpfiiaaW.PrintLast Go.Proofs.YtadaopfcgpfiiaaW.PrintMore PCg
set_option linter.unusedVariables false
set_option linter.unusedSimpArgs false
def joinTo (s t : List Int) : Nat → List Int
  | 0 => s
  | k + 1 => (joinTo s t k).set k (Go.bits .or .u64 (rd (joinTo s t k) k) (rd t k))
def joinL (s t : List Int) : List Int := joinTo s t s.length
theorem joinTo_len (s t : List Int) (k : Nat) : (joinTo s t k).length = s.length := by
  induction k with
  | zero => rfl
  | succ k ih => simp [joinTo, ih]
theorem joinL_len (s t : List Int) : (joinL s t).length = s.length := joinTo_len s t _
theorem join_go (s t : List Int) (hl : s.length ≤ 1000000) (ht : t.length = s.length) : ∀ n j fuel : Nat, j + n = s.length → n < fuel →
    liveness_set_join.l0 fuel (joinTo s t j) t (s.length : Int) (j : Int) = some (joinL s t) := by
  intro n
  induction n with
  | zero =>
    intro j fuel hj hf
    obtain ⟨f, rfl⟩ : ∃ f, fuel = f + 1 := ⟨fuel - 1, by omega⟩
    unfold liveness_set_join.l0
    rw [if_neg (by omega), joinL, show j = s.length by omega]
  | succ n ih =>
    intro j fuel hj hf
    obtain ⟨f, rfl⟩ : ∃ f, fuel = f + 1 := ⟨fuel - 1, by omega⟩
    unfold liveness_set_join.l0
    rw [if_pos (by omega), if_pos (by omega), if_pos (by rw [joinTo_len]; omega), if_pos (by omega), w64 (n := (j : Int) + 1) (by omega)]
    exact ih (j + 1) f (by omega) (by omega)
theorem join_f (s t : List Int) (hl : s.length ≤ 1000000) (ht : t.length = s.length) (K : Nat) (hK : s.length < K) : liveness_set_join.f K s t = some (joinL s t) :=
  join_go s t hl ht s.length 0 K (by omega) hK
theorem joinTo_le (s t : List Int) (k : Nat) : sLe s (joinTo s t k) := by
  induction k with
  | zero => exact sLe.refl _
  | succ k ih =>
    refine ih.trans ⟨by simp [joinTo], fun i hi => ?_⟩
    simp only [joinTo, List.getD_eq_getElem?_getD, List.getElem?_set]
    by_cases e : k = i
    · subst e
      rw [if_pos rfl, if_pos hi]
      have : rd (joinTo s t k) (k : Int) = (joinTo s t k)[k]?.getD 0 := by simp [rd]
      rw [this]
      exact bwLe_or_left _ _
    · rw [if_neg e]
      exact bwLe.refl _
theorem joinL_le (s t : List Int) : sLe s (joinL s t) := joinTo_le s t _
end Go.Proofs.Ytadaopfcgpfiiaa
namespace Go.Proofs.Ytadaopfcgpfiiaa
open Go.RowKit Go.Proofs.YtadaopfcgpfiiaaW.PrintWords Go.Proofs.YtadaopfcgpfiiaaW.PrintLast Go.Proofs.YtadaopfcgpfiiaaW.PrintMore PCg
set_option linter.unusedVariables false
set_option linter.unusedSimpArgs false
def CanW (x : Int) : Prop := ∃ v : BitVec 64, x = (v.toNat : Int)
def Canon (s : List Int) : Prop := ∀ x ∈ s, CanW x
theorem canW_bw {x : Int} (h : CanW x) : ((bw x).toNat : Int) = x := by
  obtain ⟨v, rfl⟩ := h
  rw [bw_toNat]
theorem canW_or (x y : Int) : CanW (Go.bits .or .u64 x y) := ⟨_, bits_or64 x y⟩
theorem canW_andNot (x y : Int) : CanW (Go.bits .andNot .u64 x y) := ⟨_, bits_andNot64 x y⟩
theorem Canon.set {s : List Int} (h : Canon s) (j : Nat) {x : Int} (hx : CanW x) : Canon (s.set j x) := fun y hy => by
  rcases List.mem_or_eq_of_mem_set hy with hy | rfl
  · exact h y hy
  · exact hx
theorem Canon.add {s : List Int} (h : Canon s) (r : Int) : Canon (setAdd s r) := h.set _ (canW_or _ _)
theorem Canon.del {s : List Int} (h : Canon s) (r : Int) : Canon (setDel s r) := h.set _ (canW_andNot _ _)
theorem Canon.adds (l : List Int) : ∀ s : List Int, Canon s → Canon (l.foldl setAdd s) := by
  induction l with
  | nil => intro s h; exact h
  | cons r l ih => intro s h; exact ih _ (h.add r)
theorem Canon.before {s : List Int} (h : Canon s) (i : S51) : Canon (beforeL i s) := by
  unfold beforeL
  refine Canon.adds _ _ ?_
  split
  · exact h.del _
  · exact h
theorem Canon.joinTo {s : List Int} (h : Canon s) (t : List Int) (k : Nat) : Canon (joinTo s t k) := by
  induction k with
  | zero => exact h
  | succ k ih => exact ih.set _ (canW_or _ _)
theorem Canon.join {s : List Int} (h : Canon s) (t : List Int) : Canon (joinL s t) := h.joinTo t _
theorem sLe_cons {x y : Int} {s t : List Int} (h : sLe (x :: s) (y :: t)) : bwLe x y ∧ sLe s t := by
  refine ⟨h.2 0 (by simp), by have := h.1; simpa using this, fun i hi => ?_⟩
  have := h.2 (i + 1) (by simpa using hi)
  simpa using this
end Go.Proofs.Ytadaopfcgpfiiaa
namespace Go.Proofs.Ytadaopfcgpfiiaa
open Go.RowKit Go.Proofs.YtadaopfcgpfiiaaW.PrintWords Go.Proofs.YtadaopfcgpfiiaaW.PrintLast Go.Proofs.YtadaopfcgpfiiaaW.PrintMore PCg
set_option linter.unusedVariables false
set_option linter.unusedSimpArgs false
def atEndL (b : S49) (s : List Int) : List Int := if b.f1 = 2 then setAdd s b.f2 else s
set_option maxRecDepth 100000 in
set_option maxHeartbeats 1000000 in
theorem atEnd_any (A5 : Option Addr) (n5 c5 : Nat) (b : S49) (A : Option Addr) (c : Nat) (s : List Int) (w : World)
    (hr : Kd.C (Kd.int .u64) w A s.length s) (hcp : s.length ≤ c) (hs : s.length ≤ 1000000) (hx : b.f1 = 2 → 0 ≤ b.f2 ∧ b.f2 < 64 * s.length) :
    Calls Try.prog 93 #[.agg #[.slice A5 n5 c5, .int .u8 b.f1, .int .i64 b.f2, .int .i64 b.f3, .int .i64 b.f4], .slice A s.length c] w
      fun e w' => ∃ v, e = .returned v ∧ Kd.R (Kd.int .u64) 191 w' w.heap.size (fun _ => True) v (atEndL b s) ∧ Below w.heap.size w w' := by
  have HR := Aside0.mk hr; have HX := Aside0.mk hx
  clear hr hx
  have hu := Try.underlying49
  have hB1 := below_alloc (Below.refl w.heap.size w) (.cells #[.slice A5 n5 c5, .int .u8 b.f1, .int .i64 b.f2, .int .i64 b.f3, .int .i64 b.f4] 49)
  have hb1 := blk_new w (.cells #[.slice A5 n5 c5, .int .u8 b.f1, .int .i64 b.f2, .int .i64 b.f3, .int .i64 b.f4] 49)
  have HB1 := Aside0.mk hB1; have HBB := Aside0.mk hb1
  clear hB1 hb1
  go_enter Try.func93, Try.ntmps93
  go_wp2_with fail
  refine (cloneSet_any A c s _ (Kd.C_below HR.out HB1.out) hcp (by omega)).mono ?_
  rintro e w2 ⟨v, rfl, hR2, hb2⟩
  have hB2 := blk_below HBB.out hb2
  obtain ⟨b0, b1, b2, b3, b4⟩ := blk5 hB2
  have hl2 := blk_lt hB2
  have HW2 := Aside0.mk (below_step HB1.out hb2)
  have HR2 := Aside0.mk (Kd.R_lower hR2 (base' := w.heap.size) (by simp))
  clear hB2 hR2 hb2
  obtain ⟨A2, c2, hv⟩ := Kd.R_slice HR2.out
  subst hv
  by_cases g2 : b.f1 = 2
  · have e2 : (b.f1 == 2) = true := beq_iff_eq.2 g2
    obtain ⟨h0, h1⟩ := HX.out g2
    go_wp2_with (first
      | (go_at_call 71
         refine (liveness_set_add.calls (fun _ => True) _ s b.f2 _ w _ HW2.out HR2.out (setAdd_f h0 h1 hs)).mono ?_
         rintro e w3 ⟨rfl, hR3, hB3, _⟩
         have HR3 := Aside0.mk hR3; have HB3 := Aside0.mk hB3; clear hR3 hB3))
    go_ret
    refine ⟨_, rfl, ?_, HB3.out⟩
    rw [atEndL, if_pos g2]
    exact Kd.R_mono HR3.out (fun _ _ => trivial)
  · have e2 : (b.f1 == 2) = false := beq_eq_false_iff_ne.2 g2
    go_wp2_with fail
    go_ret
    refine ⟨_, rfl, ?_, HW2.out⟩
    rw [atEndL, if_neg g2]
    exact HR2.out
end Go.Proofs.Ytadaopfcgpfiiaa
namespace Go.Proofs.Ytadaopfcgpfiiaa
open Go.RowKit Go.Proofs.YtadaopfcgpfiiaaW.PrintWords Go.Proofs.YtadaopfcgpfiiaaW.PrintLast Go.Proofs.YtadaopfcgpfiiaaW.PrintMore PCg
set_option linter.unusedVariables false
set_option linter.unusedSimpArgs false
def bitOf (s : List Int) (r : Int) : Bool := (bw (rd s (r / 64))).getLsbD (r % 64).toNat
theorem shl_one {m : Int} (h0 : 0 ≤ m) (h1 : m < 64) : shl .u64 1 m = ((2 ^ m.toNat : Nat) : Int) := by
  unfold shl
  have hb : IntKind.u64.bits = 64 := rfl
  rw [hb, Nat.min_eq_left (by omega), Int.one_mul]
  have h2 : (2 ^ m.toNat : Nat) < 18446744073709551616 := by
    have : (2 : Nat) ^ m.toNat < 2 ^ 64 := Nat.pow_lt_pow_right (by omega) (by omega)
    simpa using this
  have e : ((2 : Int) ^ m.toNat) = ((2 ^ m.toNat : Nat) : Int) := by simp
  rw [e, u64_wrap _ h2]
theorem bit_one {m : Int} (h0 : 0 ≤ m) (h1 : m < 64) (i : Nat) : (bw (shl .u64 1 m)).getLsbD i = decide (m.toNat = i) := by
  rw [shl_one h0 h1]
  have : bw ((2 ^ m.toNat : Nat) : Int) = BitVec.twoPow 64 m.toNat := by
    unfold bw
    rw [BitVec.ofInt_natCast]
    apply BitVec.eq_of_toNat_eq
    rw [BitVec.toNat_ofNat, BitVec.toNat_twoPow]
  rw [this, BitVec.getLsbD_twoPow]
  by_cases e : m.toNat = i
  · subst e; simp; omega
  · simp [e]
theorem bit_add {s : List Int} {q r : Int} (hq : 0 ≤ q) (hr : 0 ≤ r) (h : bitOf (setAdd s q) r = true) : bitOf s r = true ∨ r = q := by
  unfold bitOf setAdd rd at *
  simp only [List.getD_eq_getElem?_getD, List.getElem?_set] at h ⊢
  by_cases e : (q / 64).toNat = (r / 64).toNat
  · rw [if_pos e] at h
    split at h
    · simp only [Option.getD_some] at h
      rw [bw_or, BitVec.getLsbD_or, Bool.or_eq_true] at h
      rcases h with h | h
      · left
        rw [← e]
        exact h
      · right
        rw [bit_one (by omega) (by omega)] at h
        simp at h
        omega
    · simp [bw] at h
  · rw [if_neg e] at h
    exact .inl h
theorem bit_del {s : List Int} {q r : Int} (h : bitOf (setDel s q) r = true) : bitOf s r = true := by
  unfold bitOf setDel rd at *
  simp only [List.getD_eq_getElem?_getD, List.getElem?_set] at h ⊢
  by_cases e : (q / 64).toNat = (r / 64).toNat
  · rw [if_pos e] at h
    split at h
    · simp only [Option.getD_some] at h
      rw [bw_andNot, BitVec.getLsbD_and, Bool.and_eq_true] at h
      rw [← e]
      exact h.1
    · simp [bw] at h
  · rw [if_neg e] at h
    exact h
theorem bit_joinTo {s t : List Int} {r : Int} (k : Nat) (h : bitOf (joinTo s t k) r = true) : bitOf s r = true ∨ bitOf t r = true := by
  induction k with
  | zero => exact .inl h
  | succ k ih =>
    unfold bitOf joinTo at h
    rw [show rd ((joinTo s t k).set k (Go.bits .or .u64 (rd (joinTo s t k) k) (rd t k))) (r / 64) = ((joinTo s t k).set k (Go.bits .or .u64 (rd (joinTo s t k) k) (rd t k))).getD (r / 64).toNat 0 from rfl] at h
    simp only [List.getD_eq_getElem?_getD, List.getElem?_set] at h
    by_cases e : k = (r / 64).toNat
    · rw [if_pos e] at h
      split at h
      · simp only [Option.getD_some] at h
        rw [bw_or, BitVec.getLsbD_or, Bool.or_eq_true] at h
        rcases h with h | h
        · apply ih
          unfold bitOf rd
          rw [← e]
          simpa [rd] using h
        · right
          unfold bitOf rd
          rw [← e]
          simpa [rd] using h
      · simp [bw] at h
    · rw [if_neg e] at h
      apply ih
      unfold bitOf rd
      rw [List.getD_eq_getElem?_getD]
      exact h
/-- every member is below n -/
def Bnd (n : Int) (s : List Int) : Prop := ∀ r : Int, 0 ≤ r → bitOf s r = true → r < n
theorem Bnd.zeros (n : Int) (L : Nat) : Bnd n (List.replicate L 0) := by
  intro r hr h
  unfold bitOf rd at h
  rw [List.getD_eq_getElem?_getD, List.getElem?_replicate] at h
  split at h <;> simp [bw] at h
theorem Bnd.add {n : Int} {s : List Int} (h : Bnd n s) {q : Int} (h0 : 0 ≤ q) (h1 : q < n) : Bnd n (setAdd s q) := fun r hr hb => by
  rcases bit_add h0 hr hb with h2 | rfl
  · exact h r hr h2
  · exact h1
theorem Bnd.del {n : Int} {s : List Int} (h : Bnd n s) (q : Int) : Bnd n (setDel s q) := fun r hr hb => h r hr (bit_del hb)
theorem Bnd.join {n : Int} {s t : List Int} (h : Bnd n s) (h' : Bnd n t) : Bnd n (joinL s t) := fun r hr hb => by
  rcases bit_joinTo _ hb with h2 | h2
  · exact h r hr h2
  · exact h' r hr h2
theorem Bnd.adds {n : Int} (l : List Int) (hl : ∀ r ∈ l, 0 ≤ r ∧ r < n) : ∀ s, Bnd n s → Bnd n (l.foldl setAdd s) := by
  induction l with
  | nil => intro s h; exact h
  | cons r l ih =>
    intro s h
    obtain ⟨h0, h1⟩ := hl r (List.mem_cons_self ..)
    exact ih (fun q hq => hl q (List.mem_cons_of_mem _ hq)) _ (h.add h0 h1)
theorem Bnd.before {n : Int} {i : S51} {s : List Int} (hi : insWf n i) (h : Bnd n s) : Bnd n (beforeL i s) := by
  obtain ⟨_, _, hu⟩ := hi
  unfold beforeL
  refine Bnd.adds _ (fun r hr => hu r (List.mem_append_left _ hr)) _ ?_
  split
  · exact h.del _
  · exact h
theorem has_f {s : List Int} {r : Int} (hc : Canon s) (h0 : 0 ≤ r) (h1 : r < 64 * s.length) (h2 : s.length ≤ 1000000) : liveness_set_has.f s r = some (bitOf s r) := by
  unfold liveness_set_has.f
  rw [tdiv64 h0, tmod64 h0, w64 (n := r / 64) (by omega), if_pos (by omega), if_pos (by omega), if_pos (by omega)]
  congr 1
  have hcw : CanW (rd s (r / 64)) := by
    have : rd s (r / 64) ∈ s := by
      unfold rd
      rw [List.getD_eq_getElem?_getD, List.getElem?_eq_getElem (by omega)]
      simp
    exact hc _ this
  obtain ⟨v, hv⟩ := hcw
  unfold bitOf
  rw [hv, bw_toNat]
  have hm : (r % 64).toNat < 64 := by omega
  have hsh : shr .u64 (v.toNat : Int) (r % 64) = ((v >>> (r % 64).toNat).toNat : Int) := by
    unfold shr
    have hb : IntKind.u64.bits = 64 := rfl
    rw [hb, Nat.min_eq_left (by omega), BitVec.toNat_ushiftRight, Nat.shiftRight_eq_div_pow]
    simp
  rw [hsh]
  have hand : Go.bits .and .u64 ((v >>> (r % 64).toNat).toNat : Int) 1 = (((v >>> (r % 64).toNat) &&& 1#64).toNat : Int) := by
    show IntKind.u64.wrap ((bw ((v >>> (r % 64).toNat).toNat : Int) &&& bw 1).toNat : Int) = _
    rw [u64_wrap _ (bw ((v >>> (r % 64).toNat).toNat : Int) &&& bw 1).isLt, bw_toNat]
    rfl
  rw [hand]
  have hk : ((v >>> (r % 64).toNat) &&& 1#64) = if v.getLsbD (r % 64).toNat then 1#64 else 0#64 := by
    rw [BitVec.and_one_eq_setWidth_ofBool_getLsbD]
    rw [BitVec.getLsbD_ushiftRight, Nat.add_zero]
    cases v.getLsbD (r % 64).toNat <;> rfl
  rw [hk]
  cases v.getLsbD (r % 64).toNat <;> rfl
end Go.Proofs.Ytadaopfcgpfiiaa
namespace Go.Proofs.Ytadaopfcgpfiiaa
open Go.RowKit Go.Proofs.YtadaopfcgpfiiaaW.PrintWords Go.Proofs.YtadaopfcgpfiiaaW.PrintLast Go.Proofs.YtadaopfcgpfiiaaW.PrintMore PCg
set_option linter.unusedVariables false
set_option linter.unusedSimpArgs false
/-- the registers live at the beginning of a block, out of those at its end -/
def backL (l : List S51) (s : List Int) : List Int := l.foldl (fun s i => beforeL i s) s
def liveB (b : S49) (s : List Int) : List Int := backL b.f0.reverse (atEndL b s)
theorem backL_len (l : List S51) : ∀ s, (backL l s).length = s.length := by
  induction l with
  | nil => intro s; rfl
  | cons i l ih => intro s; rw [backL, List.foldl_cons]; exact (ih _).trans (beforeL_len i s)
theorem atEndL_len (b : S49) (s : List Int) : (atEndL b s).length = s.length := by
  unfold atEndL; split
  · exact setAdd_len _ _
  · rfl
theorem liveB_len (b : S49) (s : List Int) : (liveB b s).length = s.length := (backL_len _ _).trans (atEndL_len b s)
theorem backL_mono {regs : Int} (l : List S51) : ∀ s t : List Int, (∀ i ∈ l, insWf regs i) → regs ≤ 64 * s.length → sLe s t → sLe (backL l s) (backL l t) := by
  induction l with
  | nil => intro s t _ _ h; exact h
  | cons i l ih =>
    intro s t hw hr h
    exact ih _ _ (fun q hq => hw q (List.mem_cons_of_mem _ hq)) (by rw [beforeL_len]; exact hr) (beforeL_mono (hw i (List.mem_cons_self ..)) hr h)
theorem liveB_mono {regs nb : Int} {b : S49} {s t : List Int} (hb : BlkWf regs nb b) (hr : regs ≤ 64 * s.length) (h : sLe s t) : sLe (liveB b s) (liveB b t) := by
  refine backL_mono _ _ _ (fun i hi => hb.ins i (List.mem_reverse.1 hi)) (by rw [atEndL_len]; exact hr) ?_
  unfold atEndL
  by_cases e : b.f1 = 2
  · rw [if_pos e, if_pos e]
    have := hb.x e
    exact h.add this.1 (by omega)
  · rw [if_neg e, if_neg e]; exact h
theorem backL_canon (l : List S51) : ∀ s, Canon s → Canon (backL l s) := by
  induction l with
  | nil => intro s h; exact h
  | cons i l ih => intro s h; exact ih _ (h.before i)
theorem atEndL_canon (b : S49) {s : List Int} (h : Canon s) : Canon (atEndL b s) := by
  unfold atEndL; split
  · exact h.add _
  · exact h
theorem liveB_canon (b : S49) {s : List Int} (h : Canon s) : Canon (liveB b s) := backL_canon _ _ (atEndL_canon b h)
theorem backL_bnd {n : Int} (l : List S51) : ∀ s, (∀ i ∈ l, insWf n i) → Bnd n s → Bnd n (backL l s) := by
  induction l with
  | nil => intro s _ h; exact h
  | cons i l ih => intro s hw h; exact ih _ (fun q hq => hw q (List.mem_cons_of_mem _ hq)) (h.before (hw i (List.mem_cons_self ..)))
theorem atEndL_bnd {regs nb : Int} {b : S49} {s : List Int} (hb : BlkWf regs nb b) (h : Bnd regs s) : Bnd regs (atEndL b s) := by
  unfold atEndL
  by_cases e : b.f1 = 2
  · rw [if_pos e]; exact h.add (hb.x e).1 (hb.x e).2
  · rw [if_neg e]; exact h
theorem liveB_bnd {regs nb : Int} {b : S49} {s : List Int} (hb : BlkWf regs nb b) (h : Bnd regs s) : Bnd regs (liveB b s) :=
  backL_bnd _ _ (fun i hi => hb.ins i (List.mem_reverse.1 hi)) (atEndL_bnd hb h)
theorem newSet_f {regs : Int} (h0 : 0 ≤ regs) (h1 : regs ≤ 10000) : liveness_newSet.f regs = some (List.replicate ((regs + 63) / 64).toNat 0) := by
  unfold liveness_newSet.f
  rw [w64 (n := regs + 63) (by omega), tdiv64 (by omega), w64 (n := (regs + 63) / 64) (by omega), if_pos (by omega), if_pos (by omega)]
theorem canon_zeros (L : Nat) : Canon (List.replicate L 0) := fun x hx => ⟨0#64, by have := List.eq_of_mem_replicate hx; rw [this]; rfl⟩
/-- the members below k, in order -/
def listTo (s : List Int) (k : Nat) : List Int := ((List.range k).filter fun r : Nat => bitOf s (r : Int)).map fun r : Nat => (r : Int)
theorem listTo_succ (s : List Int) (k : Nat) : listTo s (k + 1) = if bitOf s k = true then listTo s k ++ [(k : Int)] else listTo s k := by
  unfold listTo
  rw [List.range_succ, List.filter_append, List.map_append]
  by_cases h : bitOf s (k : Int) = true
  · rw [if_pos h]; simp [List.filter_cons, h]
  · rw [if_neg h]; simp [List.filter_cons, h]
theorem listTo_len (s : List Int) (k : Nat) : (listTo s k).length ≤ k := by
  unfold listTo
  rw [List.length_map]
  refine Nat.le_trans (List.length_filter_le _ _) ?_
  simp
theorem listTo_mem {s : List Int} {k : Nat} {x : Int} (h : x ∈ listTo s k) : 0 ≤ x ∧ x < k ∧ bitOf s x = true := by
  unfold listTo at h
  obtain ⟨r, hr, rfl⟩ := List.mem_map.1 h
  rw [List.mem_filter, List.mem_range] at hr
  exact ⟨by omega, by omega, hr.2⟩
theorem list_go {s : List Int} (hc : Canon s) (hl : s.length ≤ 1000000) : ∀ n j fuel : Nat, j + n = 64 * s.length → n < fuel →
    liveness_set_list.l0 fuel s (listTo s j) (64 * (s.length : Int)) (j : Int) = some (listTo s (64 * s.length)) := by
  intro n
  induction n with
  | zero =>
    intro j fuel hj hf
    obtain ⟨f, rfl⟩ : ∃ f, fuel = f + 1 := ⟨fuel - 1, by omega⟩
    unfold liveness_set_list.l0
    rw [if_neg (by omega), show j = 64 * s.length by omega]
  | succ n ih =>
    intro j fuel hj hf
    obtain ⟨f, rfl⟩ : ∃ f, fuel = f + 1 := ⟨fuel - 1, by omega⟩
    unfold liveness_set_list.l0
    rw [if_pos (by omega), has_f hc (by omega) (by omega) hl, Option.bind_some, w64 (n := (j : Int) + 1) (by omega)]
    have h := ih (j + 1) f (by omega) (by omega)
    rw [listTo_succ] at h
    have hll := listTo_len s j
    by_cases hb : bitOf s (j : Int) = true
    · rw [if_pos hb] at h
      rw [if_pos hb, if_pos (by omega)]
      exact h
    · rw [if_neg hb] at h
      rw [if_neg hb]
      exact h
theorem list_f {s : List Int} (hc : Canon s) (hl : s.length ≤ 1000000) : liveness_set_list.f (64 * s.length + 1) s = some (listTo s (64 * s.length)) := by
  unfold liveness_set_list.f
  rw [w64 (n := 64 * (s.length : Int)) (by omega)]
  exact list_go hc hl (64 * s.length) 0 _ (by omega) (by omega)
theorem equal_go (s t : List Int) (hl : s.length ≤ 1000000) (ht : t.length = s.length) : ∀ n j fuel : Nat, j + n = s.length → n < fuel →
    liveness_set_uint64_118.l0 fuel s t (s.length : Int) (j : Int) = some (decide (s.drop j = t.drop j)) := by
  intro n
  induction n with
  | zero =>
    intro j fuel hj hf
    obtain ⟨f, rfl⟩ : ∃ f, fuel = f + 1 := ⟨fuel - 1, by omega⟩
    unfold liveness_set_uint64_118.l0
    rw [if_neg (by omega), List.drop_eq_nil_of_le (by omega), List.drop_eq_nil_of_le (by omega)]
    simp
  | succ n ih =>
    intro j fuel hj hf
    obtain ⟨f, rfl⟩ : ∃ f, fuel = f + 1 := ⟨fuel - 1, by omega⟩
    unfold liveness_set_uint64_118.l0
    rw [if_pos (by omega), if_pos (by omega), if_pos (by omega), if_pos (by omega)]
    have e1 : rd s (j : Int) = s[j]'(by omega) := by simp [rd, show j < s.length by omega]
    have e2 : rd t (j : Int) = t[j]'(by omega) := by simp [rd, show j < t.length by omega]
    rw [e1, e2, @List.drop_eq_getElem_cons _ j s (by omega), @List.drop_eq_getElem_cons _ j t (by omega), w64 (n := (j : Int) + 1) (by omega)]
    by_cases e : s[j]'(by omega) = t[j]'(by omega)
    · rw [if_pos e]
      have h := ih (j + 1) f (by omega) (by omega)
      refine h.trans ?_
      congr 1
      rw [decide_eq_decide]
      constructor
      · intro h2; rw [e, h2]
      · intro h2; injection h2
    · rw [if_neg e]
      congr 1
      symm
      rw [decide_eq_false_iff_not]
      intro h
      injection h with h1 h2
      exact e h1
theorem equal_f {s t : List Int} (hl : s.length ≤ 1000000) (ht : t.length = s.length) : liveness_set_equal.f (s.length + 1) s t = some (decide (s = t)) := by
  unfold liveness_set_equal.f liveness_set_uint64_118.f
  rw [if_pos (by omega)]
  have h := equal_go s t hl ht s.length 0 (s.length + 1) (by omega) (by omega)
  simp only [List.drop_zero] at h
  rw [show ((0 : Nat) : Int) = 0 from rfl] at h
  rw [h]
  rfl
end Go.Proofs.Ytadaopfcgpfiiaa
