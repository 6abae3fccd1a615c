/- Lemmas: what the theorem of the claim's last text needs, joined by a program out of the seat's texts C8. -/
import Derived.Test.YtadaopfcgpfiiaaBaseX15
import Derived.Test.YtadaopfcgpfiiaaBaseX20
namespace Go.Proofs.Ytadaopfcgpfiiaa
open Go.RowKit Go.Proofs.YtadaopfcgpfiiaaW.PrintWords Go.Proofs.YtadaopfcgpfiiaaW.PrintLast Go.Proofs.YtadaopfcgpfiiaaW.PrintMore PCg
set_option linter.unusedVariables false
set_option linter.unusedSimpArgs false
/-- what a state grows by -/
def Sz (st : GSt) (n : Nat) (st' : GSt) : Prop := st'.code.length ≤ st.code.length + n ∧ st'.refs.length ≤ st.refs.length + 1 ∧ st'.starts = st.starts ∧ st'.patches = st.patches
theorem sz_ite {c : Prop} [Decidable c] {st a b : GSt} {n : Nat} (ha : Sz st n a) (hb : Sz st n b) : Sz st n (if c then a else b) := by split; exact ha; exact hb
theorem sz_emit {st : GSt} {l : List S53} {n : Nat} (h : l.length ≤ n) : Sz st n (st.emit l) := ⟨by simp [GSt.emit]; exact h, by simp [GSt.emit], rfl, rfl⟩
theorem sz_emit_refer {st : GSt} {l : List S53} {x : S53} {nm : ByteArray} {n : Nat} (h : l.length + 1 ≤ n) : Sz st n ((st.emit l).refer x nm) := ⟨by simp [GSt.emit, GSt.refer]; omega, by simp [GSt.emit, GSt.refer], rfl, rfl⟩
theorem sz_refer {st : GSt} {x : S53} {nm : ByteArray} {n : Nat} (h : 1 ≤ n) : Sz st n (st.refer x nm) := ⟨by simp [GSt.refer]; omega, by simp [GSt.refer], rfl, rfl⟩
theorem genDef1_sz (sp : Int) (pl : List (Int × Int)) (m : ByteArray → Int) (st : GSt) (i : S51) : Sz st 6 (genDef1 sp pl m st i) := by
  have h1 := useCode_len sp (rdTwo pl i.f2) 14
  have h2 := useCode_len sp (rdTwo pl i.f3) 15
  have h4 := constCode_len (useReg (rdTwo pl i.f1) 14) (wrap32 i.f4)
  have h5 := binCode_len i.f4 (useReg (rdTwo pl i.f1) 14) (useReg (rdTwo pl i.f2) 14) (useReg (rdTwo pl i.f3) 15)
  unfold genDef1
  repeat' refine sz_ite ?_ ?_
  all_goals first
    | (refine sz_emit ?_; simp only [List.length_append, List.length_cons, List.length_nil]; omega)
    | (refine sz_emit ?_; omega)
    | (refine sz_emit_refer ?_; omega)
    | exact ⟨by omega, by omega, rfl, rfl⟩
theorem genDef_sz (sp : Int) (pl : List (Int × Int)) (m : ByteArray → Int) (st : GSt) (i : S51) : Sz st 7 (genDef sp pl m st i) := by
  have h3 := storeCode_len sp (rdTwo pl i.f1)
  obtain ⟨a1, a2, a3, a4⟩ := genDef1_sz sp pl m st i
  exact ⟨by simp only [genDef, GSt.emit, List.length_append]; omega, a2, a3, a4⟩
theorem genIns_sz (sp : Int) (pl : List (Int × Int)) (m : ByteArray → Int) (st : GSt) (i : S51) : Sz st 8 (genIns sp pl m st i) := by
  have h1 := useCode_len sp (rdTwo pl i.f2) 14
  have h2 := useCode_len sp (rdTwo pl i.f3) 15
  unfold genIns
  repeat' refine sz_ite ?_ ?_
  all_goals first
    | (obtain ⟨a1, a2, a3, a4⟩ := genDef_sz sp pl m st i; exact ⟨by omega, a2, a3, a4⟩)
    | (refine sz_emit ?_; simp only [List.length_append, List.length_cons, List.length_nil]; omega)
    | (refine sz_emit_refer ?_; simp only [List.length_append]; omega)
    | (refine sz_refer ?_; omega)
def genCode (sp : Int) (pl : List (Int × Int)) (m : ByteArray → Int) (st : GSt) (l : List S51) : GSt := l.foldl (genIns sp pl m) st
theorem genCode_sz (sp : Int) (pl : List (Int × Int)) (m : ByteArray → Int) (l : List S51) : ∀ st : GSt,
    (genCode sp pl m st l).code.length ≤ st.code.length + 8 * l.length ∧ (genCode sp pl m st l).refs.length ≤ st.refs.length + l.length ∧ (genCode sp pl m st l).starts = st.starts ∧ (genCode sp pl m st l).patches = st.patches := by
  induction l with
  | nil => intro st; exact ⟨Nat.le_refl _, Nat.le_refl _, rfl, rfl⟩
  | cons i l ih =>
    intro st
    obtain ⟨a1, a2, a3, a4⟩ := genIns_sz sp pl m st i
    obtain ⟨b1, b2, b3, b4⟩ := ih (genIns sp pl m st i)
    refine ⟨?_, ?_, b3.trans a3, b4.trans a4⟩ <;> simp only [genCode, List.foldl_cons, List.length_cons] at * <;> omega
theorem genCode_step (sp : Int) (pl : List (Int × Int)) (m : ByteArray → Int) (st : GSt) (l : List S51) (k : Int) (h0 : 0 ≤ k) (h1 : k < l.length) :
    genIns sp pl m (genCode sp pl m st (l.take k.toNat)) (rd_T51 l k) = genCode sp pl m st (l.take (k + 1).toNat) := by
  rw [show (k + 1).toNat = k.toNat + 1 from by omega, List.take_add_one, List.getElem?_eq_getElem (by omega)]
  simp only [genCode, Option.toList_some, List.foldl_append, List.foldl_cons, List.foldl_nil, rd_T51, List.getD_eq_getElem?_getD]
  rw [List.getElem?_eq_getElem (by omega)]
  rfl
def GSt.start (st : GSt) : GSt := { st with starts := st.starts ++ [(st.code.length : Int)] }
/-- the code of block k -/
def genBlk (sp : Int) (pl : List (Int × Int)) (m : ByteArray → Int) (st : GSt) (k : Int) (b : S49) : GSt :=
  let st2 := genCode sp pl m st.start b.f0
  if b.f1 = 3 then st2.emit [⟨1, 0, 0, 0, 0⟩]
  else if b.f1 = 2 then
    let st3 := (st2.emit (useCode sp (rdTwo pl b.f2) 14)).leap ⟨23, useReg (rdTwo pl b.f2) 14, 0, 0, 0⟩ b.f3
    if b.f4 = k + 1 then st3 else st3.leap ⟨24, 0, 0, 0, 0⟩ b.f4
  else if b.f3 = k + 1 then st2 else st2.leap ⟨24, 0, 0, 0, 0⟩ b.f3
def blkPre (n : Nat) (b : S49) : Prop := (∀ i ∈ b.f0, insPre n i ∧ i.f5.size ≤ maxLen) ∧ (b.f1 = 2 → regIn n b.f2)
theorem infoINT : (Try.prog.info? 3).map (fun i => (i.zero, i.size, i.bytes)) = some (some (.int .i64 0), 1, 8) := by kernel_rfl
theorem one_int {W : World} {b t : Nat} {i : Int} (h : W.heap[b]? = some (.cells #[.int .i64 i] t (0, 0))) : Kd.C (Kd.int .i64) W (some ⟨b, 0, none⟩) 1 [i] := by
  refine ⟨rfl, by omega, fun _ => ⟨⟨b, 0, none⟩, rfl, fun j p hj => ?_⟩⟩
  match j, hj with
  | 0, hj =>
    have hp : i = p := by simpa using hj
    subst hp
    refine ⟨[.int .i64 i], rfl, rfl, fun q u hu => ?_⟩
    have ha : (⟨b, 0, none⟩ : Addr).add (0 * (Kd.int .i64).sz + q) = ⟨b, q, none⟩ := by rw [Nat.zero_mul, Nat.zero_add]; exact add_plain b q
    rw [ha, blk_cell h q]
    simpa using hu
  | j + 1, hj => simp at hj
theorem ins_post {w0 : World} {g : Nat} {O : Nat → Prop} {E : GEnv} {st : GSt} {w2 W w : World} (h : GPost w0.heap.size g O E w2 st W) (hk : Below W.heap.size W w) (hB2 : Below w0.heap.size w0 w2)
    (Ap : Option Addr) (cp : Nat) (places : List (Int × Int)) (N : Nat) (m : ByteArray → Int) (i : S51) (hP : Kd.C kTwo w0 Ap places.length places) (hpv : E.pv = .slice Ap places.length cp)
    (hM : GMap w2 E.mb N m) (hmg : E.mb ≠ g) (hmO : ¬ O E.mb) (s0 : 0 ≤ E.spill) (s1 : E.spill ≤ 1000000) (hpl : ∀ v, (rdTwo places v).2 ≤ 1000000)
    (hsz : st.code.length + 12 ≤ 1000000) (hrz : st.refs.length + 1 ≤ 1000000) (hns : i.f5.size ≤ maxLen) (hi : insPre places.length i) :
    Calls Try.prog 49 #[.pointer (some ⟨g, 0, none⟩), .agg #[.int .u8 i.f0, .int .i64 i.f1, .int .i64 i.f2, .int .i64 i.f3, .int .i64 i.f4, .string i.f5]] w
      fun e w' => e = .returned (.tuple #[]) ∧ GPost w0.heap.size g O E w2 (genIns E.spill places m st i) w' := by
  have hB := h.base
  have hb := (hB2.trans (gpost_below h)).trans (hk.mono hB)
  have hM' := (hM.post h hmg hmO).below hk
  have hml := hM.lt
  obtain ⟨O1, hG, hO, hk1⟩ := h
  have hmO1 : ¬ O1 E.mb := fun h3 => by
    rcases hO _ h3 with h | h
    · exact hmO h
    · omega
  exact (instruction_any w0 g O1 E st Ap cp places N m i w (hG.below hk) hb hP hpv hM' hmg hmO1 s0 s1 hpl hsz hrz hns hi).mono (fun e w' ⟨r, q⟩ => ⟨r, GPost.trans hk1 hO (GPost.pre hB hk q)⟩)
set_option maxRecDepth 100000 in
set_option maxHeartbeats 4000000 in
theorem block_any (w0 : World) (g : Nat) (O : Nat → Prop) (E : GEnv) (st : GSt) (Ap : Option Addr) (cp : Nat) (places : List (Int × Int)) (N : Nat) (m : ByteArray → Int) (A3 : Option Addr) (c3 : Nat) (blks : List S49) (k : Int) (w : World)
    (hG : Gen w w0.heap.size g O E st) (hB : Below w0.heap.size w0 w) (hP : Kd.C kTwo w0 Ap places.length places) (hpv : E.pv = .slice Ap places.length cp)
    (hr3 : Kd.C k49 w0 A3 blks.length blks) (hcp3 : blks.length ≤ c3) (hm3 : blks.length ≤ 1000000) (hbv : E.bv = .slice A3 blks.length c3) (k0 : 0 ≤ k) (k1 : k < blks.length)
    (hM : GMap w E.mb N m) (hmg : E.mb ≠ g) (hmO : ¬ O E.mb) (s0 : 0 ≤ E.spill) (s1 : E.spill ≤ 1000000) (hpl : ∀ v, (rdTwo places v).2 ≤ 1000000)
    (hpre : blkPre places.length (rd_T49 blks k))
    (hsz : st.code.length + 8 * (rd_T49 blks k).f0.length + 20 ≤ 1000000) (hrz : st.refs.length + (rd_T49 blks k).f0.length + 1 ≤ 1000000) (hsz2 : st.starts.length + 1 ≤ 1000000) (hsz3 : st.patches.length + 2 ≤ 1000000) :
    Calls Try.prog 30 #[.pointer (some ⟨g, 0, none⟩), .int .i64 k] w
      fun e w' => e = .returned (.tuple #[]) ∧ GPost w0.heap.size g O E w (genBlk E.spill places m st k (rd_T49 blks k)) w' := by
  have hg0 := hG.lt
  have hm0 := hM.lt
  have hn : ∀ k, w.heap.size ≤ k → ¬ O k := fun k hk ho => by obtain ⟨_, _, _, _, _, _, _, hO, _⟩ := hG; have := hO _ ho; omega
  have hBw : w0.heap.size ≤ w.heap.size := by obtain ⟨_, _, _, _, _, _, h, _⟩ := hG; exact h
  obtain ⟨ad, A5, c5, hA, h0, h1, h2, h3, h4, hl5, hr5⟩ := at_T49 hr3 k k0 k1
  cases hA
  replace h0 := (hB.cell (World.block_lt_of_cell? w0 _ h0)).trans h0
  replace h1 := (hB.cell (World.block_lt_of_cell? w0 _ h1)).trans h1
  replace h2 := (hB.cell (World.block_lt_of_cell? w0 _ h2)).trans h2
  replace h3 := (hB.cell (World.block_lt_of_cell? w0 _ h3)).trans h3
  replace h4 := (hB.cell (World.block_lt_of_cell? w0 _ h4)).trans h4
  have HN := Aside0.mk hn
  have HBw := Aside0.mk hBw
  have HG := Aside0.mk hG; have HB := Aside0.mk hB; have HP := Aside0.mk hP; have HPV := Aside0.mk hpv; have HM := Aside0.mk hM; have HNM := Aside0.mk hmO
  have HR5 := Aside0.mk hr5
  have HR3 := Aside0.mk hr3
  have cg7 : w.cell? ⟨g, 7, none⟩ = some (.slice (some ad) blks.length c3) := by
    obtain ⟨_, _, _, _, hb, _⟩ := hG
    exact (blk_cell hb 7).trans (by rw [← hbv]; rfl)
  clear hG hB hP hpv hM hn hmO hr5 hr3 hBw
  have p110 := eq_true k0
  have q110 := eq_true k1
  generalize rd_T49 blks k = b at *
  obtain ⟨hpi, hpx⟩ := hpre
  have HPI := Aside0.mk hpi; have HPX := Aside0.mk hpx
  clear hpi hpx
  have hu := Try.underlying49
  have hu2 := Try.underlying90
  have hu3 := Try.underlying51
  have hu4 := Try.underlying25
  have hu5 := Try.underlying31
  obtain ⟨W, hW⟩ : ∃ W, w.alloc (.cells #[.slice A5 b.f0.length c5, .int .u8 b.f1, .int .i64 b.f2, .int .i64 b.f3, .int .i64 b.f4] 49) = W := ⟨_, rfl⟩
  have hbW : Below w.heap.size w W := by rw [← hW]; exact below_alloc (Below.refl _ _) _
  have hbb : W.heap[w.heap.size]? = some (.cells #[.slice A5 b.f0.length c5, .int .u8 b.f1, .int .i64 b.f2, .int .i64 b.f3, .int .i64 b.f4] 49 (0, 0)) := by rw [← hW]; exact blk_new _ _
  have HBW := Aside0.mk hbW
  have HBB := Aside0.mk hbb
  have HGW := Aside0.mk (HG.out.below hbW)
  have HMW : Aside0 (GMap W E.mb N m) := ⟨HM.out.below hbW⟩
  have HWW : Aside0 (Below w0.heap.size w0 W) := ⟨HB.out.trans (hbW.mono HBw.out)⟩
  have HNB : Aside0 (¬ O w.heap.size) := ⟨HN.out _ (Nat.le_refl _)⟩
  have hnB : w.heap.size ≠ g := by omega
  clear hbW
  obtain ⟨vc, vr, vs, vp, hb, hBg, hBW, hO, r1, r2, r3, r4⟩ := HGW.out
  have c1 : W.cell? ⟨g, 1, none⟩ = some vc := (blk_cell hb 1).trans rfl
  have c12 : W.cell? ⟨g, 12, none⟩ = some vs := (blk_cell hb 12).trans rfl
  have f12 : W.frozen? ⟨g, 12, none⟩ = false := blk_frozen hb 12
  have hlt := blk_lt hb
  have hne : some g ≠ vs.ownBlock := Kd.R_ne r3 hb (by decide)
  obtain ⟨Ac, cc, hvc⟩ := Kd.R_slice r1
  obtain ⟨As, cs, hvs⟩ := Kd.R_slice r3
  subst hvc hvs
  obtain ⟨b0, b1, b2, b3, b4⟩ := blk5 hbb
  have hlb := blk_lt hbb
  have HBk := Aside0.mk hb; have HO := Aside0.mk hO; have HR1 := Aside0.mk r1; have HR2 := Aside0.mk r2; have HRS := Aside0.mk r3; have HR4 := Aside0.mk r4
  clear hb hO r1 r2 r3 r4 hbb
  go_enter Try.func30, Try.ntmps30
  go_wp2_with fail
  obtain ⟨W7, hW7⟩ : ∃ W7, (W.alloc (.cells #[.int .i64 st.code.length] 3)).drew = W7 := ⟨_, rfl⟩
  have HB7 : Aside0 (Below W.heap.size W W7) := ⟨by rw [← hW7]; exact below_drew (below_alloc (Below.refl _ _) _)⟩
  have HR7 : Aside0 (Kd.C (Kd.int .i64) W7 (some ⟨W.heap.size, 0, none⟩) 1 [(st.code.length : Int)]) := ⟨by rw [← hW7]; exact one_int (blk_drew (blk_new _ _))⟩
  have hB7 := Nat.le_trans hBW HB7.out.size
  have HO7 := Aside0.mk (Kd.R_mono (ok' := fun k => O k ∨ W7.heap.size ≤ k) (Kd.R_below HRS.out HB7.out) (fun _ h => .inl h))
  have hb7 := blk_below HBk.out HB7.out
  have d1 : W7.cell? ⟨g, 1, none⟩ = some (.slice Ac st.code.length cc) := (blk_cell hb7 1).trans rfl
  have d3 : W7.cell? ⟨g, 12, none⟩ = some (.slice As st.starts.length cs) := (blk_cell hb7 12).trans rfl
  have e3 : W7.frozen? ⟨g, 12, none⟩ = false := blk_frozen hb7 12
  have hlt7 := blk_lt hb7
  have HBk7 := Aside0.mk hb7
  clear hb7
  go_region_law ((refine Kd.R_append_rows_step (Kd.int .i64) (Rr := (Kd.int .i64).K W7) (w0 := W7) (W := W7) w0.heap.size rfl (.tmp 20) (.tmp 27) 37 3 _ 8 rfl Try.underlying37 infoINT rfl (by decide) (by decide) (.slice As st.starts.length cs) st.starts [(st.code.length : Int)] (some ⟨W.heap.size, 0, none⟩) 1 1 (fun k => O k ∨ W7.heap.size ≤ k) (fun _ => False) rfl rfl HO7.out HR7.out ?_ (fun _ h => h.elim) (fun _ hk => .inr hk) (Below.refl _ _) hB7 ?_ ?_
                  (intro x cs hx; exact hx)
                  (omega)
                  intro v1 w1 hR1 hB1 hg1 hat1
                  have HN1 := Aside0.mk hR1
                  have HB1 := Aside0.mk hB1
                  have HG1 := Aside0.mk hg1
                  have hb1 := blk_grown HBk7.out hg1 hne
                  have c3' : w1.cell? ⟨g, 12, none⟩ = some (.slice As st.starts.length cs) := (blk_cell hb1 12).trans rfl
                  have f3' : w1.frozen? ⟨g, 12, none⟩ = false := blk_frozen hb1 12
                  have hlt1 := blk_lt hb1
                  clear hR1 hB1 hg1 hat1 hb1
                  obtain ⟨A1, cc1, hv1⟩ := Kd.R_slice HN1.out
                  subst hv1))
  all_goals (
    have hp8 := GPost.pre hBW HB7.out (gput_starts HBk7.out hBg hB7 (fun k hk => Nat.lt_of_lt_of_le (HO.out k hk) HB7.out.size) (Kd.R_below HR1.out HB7.out) (Kd.R_below HR2.out HB7.out) (Kd.R_below HRS.out HB7.out) (Kd.R_below HR4.out HB7.out) HG1.out HB1.out HN1.out)
    rw [show (st.starts ++ [(st.code.length : Int)]).length = st.starts.length + 1 from by simp] at hp8
    clear HR7 HO7 HB1 HN1 HG1 c1 c12 f12 c3' f3' d1 d3 e3 HBk7 hlt1
    generalize w1.setCell ⟨g, 12, none⟩ (.slice A1 (st.starts.length + 1) cc1) = W8 at *
    have HQ8 : Aside0 (GPost w0.heap.size g O E W st.start W8) := ⟨hp8⟩
    clear hp8
    have hbb8 := gpost_blk HQ8.out HBB.out hnB HNB.out
    clear b0 b1 b2 b3 b4 hlb h0 h1 h2 h3 h4
    obtain ⟨b0, b1, b2, b3, b4⟩ := blk5 hbb8
    have hlb := blk_lt hbb8
    have hgW : g < W8.heap.size := Nat.lt_of_lt_of_le hlt (gpost_size HQ8.out)
    clear hbb8 W7 hB7 hlt7 hW7 HB7
    go_wp2_with fail
    clear b0 b1 b2 b3 b4 hlb
    go_loopw [34] (fun i wr => ∃ q : Int, i = .int .i64 q ∧ 0 ≤ q ∧ q ≤ b.f0.length ∧ Aside0 (GPost w0.heap.size g O E W (genCode E.spill places m st.start (b.f0.take q.toNat)) wr)) (fun i wr => b.f0.length - (intOf i).toNat)
    case atStart => exact ⟨0, rfl, Int.le_refl _, by omega, HQ8⟩
    case round =>
      obtain ⟨q, rfl, hq0, hq, HQ⟩ := hrel
      by_cases hlt2 : q < b.f0.length
      · obtain ⟨ad8, hA8, i0, i1, i2, i3, i4, i5⟩ := at_T51 HR5.out q hq0 hlt2
        cases hA8
        have HWr : Aside0 (Below w0.heap.size w0 wr) := ⟨HWW.out.trans (gpost_below HQ.out)⟩
        replace i0 := (HWr.out.cell (World.block_lt_of_cell? w0 _ i0)).trans i0
        replace i1 := (HWr.out.cell (World.block_lt_of_cell? w0 _ i1)).trans i1
        replace i2 := (HWr.out.cell (World.block_lt_of_cell? w0 _ i2)).trans i2
        replace i3 := (HWr.out.cell (World.block_lt_of_cell? w0 _ i3)).trans i3
        replace i4 := (HWr.out.cell (World.block_lt_of_cell? w0 _ i4)).trans i4
        replace i5 := (HWr.out.cell (World.block_lt_of_cell? w0 _ i5)).trans i5
        have HI := Aside0.mk (HPI.out (rd_T51 b.f0 q) (mem_rd hq0 hlt2))
        have HZ := Aside0.mk (genCode_sz E.spill places m (b.f0.take q.toNat) st.start)
        have hzl : (b.f0.take q.toNat).length = q.toNat := by rw [List.length_take]; omega
        have HST := Aside0.mk (genCode_step E.spill places m st.start b.f0 q hq0 hlt2)
        have p3 := eq_true hq0
        have q3' := eq_true hlt2
        go_wp2_with fail
        refine (ins_post HQ.out (below_alloc (Below.refl _ _) _) HWW.out Ap cp places N m (rd_T51 b.f0 q) HP.out HPV.out HMW.out hmg HNM.out s0 s1 hpl ?_ ?_ HI.out.2 HI.out.1).mono ?_
        · have h := HZ.out.1; rw [hzl] at h; simp only [GSt.start] at h ⊢; omega
        · have h := HZ.out.2.1; rw [hzl] at h; simp only [GSt.start] at h ⊢; omega
        rintro e w4 ⟨rfl, hb4⟩
        rw [HST.out] at hb4
        have HB4 := Aside0.mk hb4
        clear hb4 i0 i1 i2 i3 i4 i5
        go_wp2
        go_roundw
        case rel => exact ⟨q + 1, rfl, by omega, by omega, HB4⟩
        case measure => simp [intOf]; omega
      · have hqe : q.toNat = b.f0.length := by omega
        have HQ9 : Aside0 (GPost w0.heap.size g O E W (genCode E.spill places m st.start b.f0) wr) := ⟨by have h := HQ.out; rw [hqe, List.take_length] at h; exact h⟩
        have HZ := Aside0.mk (genCode_sz E.spill places m b.f0 st.start)
        have HLX := Aside0.mk (useCode_len E.spill (rdTwo places b.f2) 14)
        clear HQ hqe
        have hbb9 := gpost_blk HQ9.out HBB.out hnB HNB.out
        obtain ⟨b0, b1, b2, b3, b4⟩ := blk5 hbb9
        have hlb := blk_lt hbb9
        have hwk : IntKind.i64.wrap (k + 1) = k + 1 := IntWalk.i64_in _ (by omega)
        clear hbb9
        have hlen : (genCode E.spill places m st.start b.f0).code.length + 12 ≤ 1000000 := by have h := HZ.out.1; simp only [GSt.start] at h ⊢; omega
        have hpat : (genCode E.spill places m st.start b.f0).patches.length + 2 ≤ 1000000 := by have h := HZ.out.2.2.2; rw [h]; exact hsz3
        obtain ⟨st2, HGC0⟩ : ∃ st2, genCode E.spill places m st.start b.f0 = st2 := ⟨_, rfl⟩
        rw [HGC0] at hlen hpat HQ9
        have HGC := Aside0.mk HGC0
        clear HGC0 HZ
        by_cases g3 : b.f1 = 3
        · have e3 : (b.f1 == 3) = true := beq_iff_eq.2 g3
          go_wp2_with (first
            | (go_at_call 29
               with_reducible refine (emit1_post HQ9.out ?_ _ 53 1 0 0 0 0 ?_ ?_).mono ?_
               (first | exact Below.refl _ _ | exact below_drew (Below.refl _ _) | exact below_alloc (Below.refl _ _) _ | exact below_drew (below_alloc (Below.refl _ _) _))
               (first | exact blk_new _ _ | exact blk_drew (blk_new _ _))
               (omega)
               rintro e w9 ⟨rfl, hq9⟩
               have hq := Aside0.mk hq9; clear hq9))
          refine bodyPost_ret (results_none rfl _ _ _) rfl ?_
          refine ⟨rfl, gpost_code (GPost.pre HBw.out HBW.out hq.out) ?_⟩
          rw [genBlk, if_pos g3, HGC.out]
        · have e3 : (b.f1 == 3) = false := beq_eq_false_iff_ne.2 g3
          by_cases g2 : b.f1 = 2
          · have e2 : (b.f1 == 2) = true := beq_iff_eq.2 g2
            obtain ⟨hx0, hx1⟩ := HPX.out g2
            go_wp2_with fail
            go_region_held3 (fun W => W.cell? ⟨w.heap.size, 2, none⟩ = some (.int .i64 b.f2) ∧ W.cell? ⟨w.heap.size, 3, none⟩ = some (.int .i64 b.f3))
              (first
                | go_keep
                | exact ⟨(blk_cell (gpost_blk hq.out HBB.out hnB HNB.out) 2).trans rfl, (blk_cell (gpost_blk hq.out HBB.out hnB HNB.out) 3).trans rfl⟩
                | exact ⟨(blk_cell (gpost_blk hq1.out HBB.out hnB HNB.out) 2).trans rfl, (blk_cell (gpost_blk hq1.out HBB.out hnB HNB.out) 3).trans rfl⟩)
              (first
                | (go_at_call 51
                   with_reducible refine (use_post HQ9.out ?_ HWW.out Ap cp places b.f2 14 HP.out HPV.out hx0 hx1 s0 s1 (hpl _) ?_).mono ?_
                   (first | exact Below.refl _ _ | exact below_drew (Below.refl _ _) | exact below_alloc (Below.refl _ _) _ | exact below_drew (below_alloc (Below.refl _ _) _))
                   (omega)
                   rintro e w3 ⟨rfl, hq3⟩
                   have hq1 := Aside0.mk hq3; clear hq3)
                | (go_at_call 50
                   with_reducible refine (jump_post hq1.out ?_ 23 (useReg (rdTwo places b.f2) 14) 0 0 0 b.f3 ?_ ?_).mono ?_
                   (first | exact Below.refl _ _ | exact below_drew (Below.refl _ _) | exact below_alloc (Below.refl _ _) _ | exact below_drew (below_alloc (Below.refl _ _) _))
                   (have h2 := HLX.out; (simp only [GSt.emit, GSt.refer, List.length_append, List.length_cons, List.length_nil]; omega))
                   (simp only [GSt.emit]; omega)
                   rintro e w9 ⟨rfl, hq9⟩
                   have hq := Aside0.mk hq9; clear hq9))
            all_goals (
              have hbb10 := gpost_blk hq.out HBB.out hnB HNB.out
              clear b0 b1 b2 b3 b4 hlb
              obtain ⟨b0, b1, b2, b3, b4⟩ := blk5 hbb10
              have hlb := blk_lt hbb10
              clear hbb10
              by_cases g4 : b.f4 = k + 1
              · have e4 : (b.f4 == k + 1) = true := beq_iff_eq.2 g4
                go_wp2_with fail
                go_end0
                refine ⟨rfl, gpost_code (GPost.pre HBw.out HBW.out hq.out) ?_⟩
                simp only [genBlk, if_neg g3, if_pos g2, if_pos g4, HGC.out, GSt.leap, GSt.emit]
              · have e4 : (b.f4 == k + 1) = false := beq_eq_false_iff_ne.2 g4
                go_wp2_with (first
                  | (go_at_call 50
                     with_reducible refine (jump_post hq.out ?_ 24 0 0 0 0 b.f4 ?_ ?_).mono ?_
                     (first | exact Below.refl _ _ | exact below_drew (Below.refl _ _) | exact below_alloc (Below.refl _ _) _ | exact below_drew (below_alloc (Below.refl _ _) _))
                     (have h2 := HLX.out; (simp only [GSt.emit, GSt.refer, List.length_append, List.length_cons, List.length_nil]; omega))
                     (simp only [GSt.emit, List.length_append, List.length_cons, List.length_nil]; omega)
                     rintro e w10 ⟨rfl, hq10⟩
                     have hq' := Aside0.mk hq10; clear hq10))
                go_end0
                refine ⟨rfl, gpost_code (GPost.pre HBw.out HBW.out hq'.out) ?_⟩
                simp only [genBlk, if_neg g3, if_pos g2, if_neg g4, HGC.out, GSt.leap, GSt.emit])
          · have e2 : (b.f1 == 2) = false := beq_eq_false_iff_ne.2 g2
            by_cases g4 : b.f3 = k + 1
            · have e4 : (b.f3 == k + 1) = true := beq_iff_eq.2 g4
              go_wp2_with fail
              go_end0
              refine ⟨rfl, gpost_code (GPost.pre HBw.out HBW.out HQ9.out) ?_⟩
              simp only [genBlk, if_neg g3, if_neg g2, if_pos g4, HGC.out, GSt.leap, GSt.emit]
            · have e4 : (b.f3 == k + 1) = false := beq_eq_false_iff_ne.2 g4
              go_wp2_with (first
                | (go_at_call 50
                   with_reducible refine (jump_post HQ9.out ?_ 24 0 0 0 0 b.f3 ?_ ?_).mono ?_
                   (first | exact Below.refl _ _ | exact below_drew (Below.refl _ _) | exact below_alloc (Below.refl _ _) _ | exact below_drew (below_alloc (Below.refl _ _) _))
                   (omega)
                   (omega)
                   rintro e w10 ⟨rfl, hq10⟩
                   have hq' := Aside0.mk hq10; clear hq10))
              go_end0
              refine ⟨rfl, gpost_code (GPost.pre HBw.out HBW.out hq'.out) ?_⟩
              simp only [genBlk, if_neg g3, if_neg g2, if_neg g4, HGC.out, GSt.leap, GSt.emit])
end Go.Proofs.Ytadaopfcgpfiiaa
