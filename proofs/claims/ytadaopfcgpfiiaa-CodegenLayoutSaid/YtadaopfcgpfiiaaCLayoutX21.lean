/- Lemmas, part 21: what the theorem of the last text needs, joined by a program out of the seat's texts C9, D0, D1, D2, D3, E0, E1, E2, E3, E4, E5, H0, H1. -/
import Derived.Test.YtadaopfcgpfiiaaCLayoutX19
import Derived.Test.YtadaopfcgpfiiaaCLayoutX18
import Derived.Deep.RegionHeld3
import Derived.Laws.ResultCell
import Derived.Laws.Rows
import Derived.Test.YtadaopfcgpfiiaaCLayoutX13
import Derived.IntWalk
import Derived.Test.YtadaopfcgpfiiaaCLayoutX15
import Derived.Test.YtadaopfcgpfiiaaCLayoutX20
namespace Go.Proofs.Ytadaopfcgpfiiaa
open Go.RowKit Go.Proofs.YtadaopfcgpfiiaaW.PrintWords Go.Proofs.YtadaopfcgpfiiaaW.PrintLast Go.Proofs.YtadaopfcgpfiiaaW.PrintMore PCg
set_option linter.unusedVariables false
set_option linter.unusedSimpArgs false
/-- what an allocation is good for -/
def AllocOk (regs : Int) (places : List (Int × Int)) (slots : Int) : Prop :=
  (places.length : Int) = regs ∧ 0 ≤ slots ∧ slots ≤ 10000 ∧ ∀ p ∈ places, (p.2 = -1 ∧ 2 ≤ p.1 ∧ p.1 ≤ 9) ∨ (p.1 = 0 ∧ 0 ≤ p.2 ∧ p.2 < slots)
theorem GMap.put {w : World} {mb N : Nat} {m : ByteArray → Int} (h : GMap w mb N m) (hN : N < maxLen) {s : ByteArray} (hs : s.size ≤ maxLen) (v : Int) (hv : (Lit.int .i64 v).wf = true) :
    ∃ w', (Instr.mapUpdate 87 (.map (some mb)) (.string s) (.int .i64 v)).run Try.prog w = .ok () w' ∧ GMap w' mb (N + 1) (fun s' => if s' = s then v else m s') ∧ w.grownBy w' (some mb) := by
  obtain ⟨D, h, hm, hl⟩ := h
  obtain ⟨w', hr, ho, hg⟩ := h.update (Maps.string_keyed Try.underlying9) Try.underlying87 hN (WideMaps.keyOf_string_mk Try.underlying9 hs) (plainElem_int Try.underlying3 hv)
  refine ⟨w', hr, ⟨_, ho, hm.put _ _, fun s' hs' => ?_⟩, hg⟩
  by_cases e : s' = s
  · subst e
    rw [Maps.atKey_put_same hm (by trivial)]
    simp only [if_true]
  · rw [Maps.atKey_put_other (fun he => e (ByteArray.ext (Array.ext' (by simpa using he))))]
    simp only [if_neg e]
    exact hl s' hs'
/-- the addresses of the first k arrays -/
def mapTo (arrs : List S44) (addr : List Int) : Nat → ByteArray → Int
  | 0 => fun _ => 0
  | k + 1 => fun s => if s = (rd_T44 arrs k).f0 then rd addr k else mapTo arrs addr k s
/-- the stores that clear the spill slots -/
def genStores (sp : Int) (n : Nat) : List S53 := (List.range n).map (fun (s : Nat) => (⟨19, 0, 0, 0, sp + (s : Int)⟩ : S53))
theorem genStores_succ (sp : Int) (n : Nat) : genStores sp (n + 1) = genStores sp n ++ [⟨19, 0, 0, 0, sp + n⟩] := by simp [genStores, List.range_succ]
/-- the code of the first k blocks -/
def genTo (sp : Int) (pl : List (Int × Int)) (m : ByteArray → Int) (blks : List S49) (st : GSt) : Nat → GSt
  | 0 => st
  | k + 1 => genBlk sp pl m (genTo sp pl m blks st k) k (rd_T49 blks k)
def sumTo (blks : List S49) : Nat → Nat
  | 0 => 0
  | k + 1 => sumTo blks k + (rd_T49 blks k).f0.length
theorem sumTo_le (blks : List S49) {j k : Nat} (h : j ≤ k) : sumTo blks j ≤ sumTo blks k := by
  induction k with
  | zero => rw [show j = 0 by omega]; exact Nat.le_refl _
  | succ k ih =>
    rcases Nat.lt_or_ge j (k + 1) with h' | h'
    · exact Nat.le_trans (ih (by omega)) (Nat.le_add_right _ _)
    · rw [show j = k + 1 by omega]; exact Nat.le_refl _
theorem genBlk_sz (sp : Int) (pl : List (Int × Int)) (m : ByteArray → Int) (st : GSt) (k : Int) (b : S49) :
    (genBlk sp pl m st k b).code.length ≤ st.code.length + 8 * b.f0.length + 3 ∧ (genBlk sp pl m st k b).refs.length ≤ st.refs.length + b.f0.length ∧ (genBlk sp pl m st k b).starts = st.starts ++ [(st.code.length : Int)] ∧ (genBlk sp pl m st k b).patches.length ≤ st.patches.length + 2 := by
  obtain ⟨a1, a2, a3, a4⟩ := genCode_sz sp pl m b.f0 st.start
  have h1 := useCode_len sp (rdTwo pl b.f2) 14
  unfold genBlk
  simp only
  generalize genCode sp pl m st.start b.f0 = st2 at *
  simp only [GSt.start] at a1 a2 a3 a4
  split
  · simp only [GSt.emit, List.length_append, List.length_cons, List.length_nil, a4]; exact ⟨by omega, a2, a3, by omega⟩
  · split
    · split
      · simp only [GSt.emit, GSt.leap, List.length_append, List.length_cons, List.length_nil, a4]; exact ⟨by omega, a2, a3, by omega⟩
      · simp only [GSt.emit, GSt.leap, List.length_append, List.length_cons, List.length_nil, a4]; exact ⟨by omega, a2, a3, by omega⟩
    · split
      · rw [a4]; exact ⟨by omega, a2, a3, by omega⟩
      · simp only [GSt.emit, GSt.leap, List.length_append, List.length_cons, List.length_nil, a4]; exact ⟨by omega, a2, a3, by omega⟩
theorem genTo_sz (sp : Int) (pl : List (Int × Int)) (m : ByteArray → Int) (blks : List S49) (st : GSt) (k : Nat) :
    (genTo sp pl m blks st k).code.length ≤ st.code.length + 8 * sumTo blks k + 3 * k ∧ (genTo sp pl m blks st k).refs.length ≤ st.refs.length + sumTo blks k ∧ (genTo sp pl m blks st k).starts.length = st.starts.length + k ∧ (genTo sp pl m blks st k).patches.length ≤ st.patches.length + 2 * k := by
  induction k with
  | zero => simp [genTo, sumTo]
  | succ k ih =>
    obtain ⟨a1, a2, a3, a4⟩ := ih
    obtain ⟨b1, b2, b3, b4⟩ := genBlk_sz sp pl m (genTo sp pl m blks st k) k (rd_T49 blks k)
    simp only [genTo, sumTo]
    refine ⟨by omega, by omega, ?_, by omega⟩
    rw [b3]; simp; omega
def zeroObj : Value := .agg #[.string ⟨#[]⟩, .slice none 0 0, .int .i64 0, .slice none 0 0]
/-- the code ahead of the patches -/
def genTask (arrs : List S44) (addr : List Int) (size : Int) (blks : List S49) (places : List (Int × Int)) (slots : Int) : GSt :=
  genTo size places (mapTo arrs addr arrs.length) blks ⟨genStores size slots.toNat, [], [], []⟩ blks.length
/-- a branch finds its block -/
def patch1 (starts : List Int) (code : List S53) (p : Int × Int) : List S53 :=
  code.set p.1.toNat ⟨(rd_T53 code p.1).f0, (rd_T53 code p.1).f1, (rd_T53 code p.1).f2, (rd_T53 code p.1).f3, rd starts p.2 - p.1 - 1⟩
def patchAll (st : GSt) : List S53 := st.patches.foldl (patch1 st.starts) st.code
/-- what Task answers for a valid function -/
def TaskOut (nm : ByteArray) (arrs : List S44) (addr : List Int) (size : Int) (blks : List S49) (places : List (Int × Int)) (slots : Int) (e : Ending) (w w' : World) : Prop :=
  ((512 < size + slots ∨ 4096 < (genTask arrs addr size blks places slots).code.length) ∧ e = .returned (.tuple #[zeroObj, .int .i64 5]) ∧ Below w.heap.size w w') ∨
  (size + slots ≤ 512 ∧ (genTask arrs addr size blks places slots).code.length ≤ 4096 ∧ ∃ vc vr, e = .returned (.tuple #[.agg #[.string nm, vc, .int .i64 (size + slots), vr], .int .i64 0]) ∧
    Kd.R k53 53 w' w.heap.size (fun _ => True) vc (patchAll (genTask arrs addr size blks places slots)) ∧ Kd.R k105 105 w' w.heap.size (fun _ => True) vr (genTask arrs addr size blks places slots).refs ∧ Below w.heap.size w w')
theorem code_addr {W : World} {base n cap : Nat} {ok : Nat → Prop} {A : Option Addr} {xs : List S53} (h : Kd.R k53 53 W base ok (.slice A n cap) xs) (hn : 0 < n) : ∃ g cells, A = some ⟨g, 0, none⟩ ∧ W.heap[g]? = some (.cells cells 53 (0, 0)) := by
  obtain ⟨_, inner, hown, hr⟩ := h
  rcases hown.2 with ⟨hv, _⟩ | ⟨g', cap', cur, hv, hb, hh, _⟩
  · injection hv with h1 h2 h3; omega
  · injection hv with h1 h2 h3
    exact ⟨g', cur, h1, hh⟩
theorem code_put {W : World} {base g n cap : Nat} {ok : Nat → Prop} {xs : List S53} (h : Kd.R k53 53 W base ok (.slice (some ⟨g, 0, none⟩) n cap) xs) (i : Int) (h0 : 0 ≤ i) (h1 : i < n) (v : Int) :
    Kd.R k53 53 (W.setCell ⟨g, i.toNat * 5 + 4, none⟩ (.int .i64 v)) base ok (.slice (some ⟨g, 0, none⟩) n cap) (xs.set i.toNat ⟨(rd_T53 xs i).f0, (rd_T53 xs i).f1, (rd_T53 xs i).f2, (rd_T53 xs i).f3, v⟩) ∧ W.grownBy (W.setCell ⟨g, i.toNat * 5 + 4, none⟩ (.int .i64 v)) (some g) := by
  obtain ⟨hn, hnc, hC⟩ := Kd.R_reads' h
  subst hn
  obtain ⟨ad, c, e, hl, hK, hc⟩ := Kd.C_get hC z53 i h0 h1
  obtain rfl := k53_open hK
  injection e with e
  have hcc : ∀ j u, ([.int .u8 (rd_T53 xs i).f0, .int .i64 (rd_T53 xs i).f1, .int .i64 (rd_T53 xs i).f2, .int .i64 (rd_T53 xs i).f3, .int .i64 (rd_T53 xs i).f4] : List Value)[j]? = some u → W.cell? ⟨g, i.toNat * k53.sz + j, none⟩ = some u := fun j u hj => by
    have := hc j u hj
    rw [← e] at this
    have ha : (⟨g, 0, none⟩ : Addr).add (i.toNat * k53.sz + j) = ⟨g, i.toNat * k53.sz + j, none⟩ := add_plain g _
    rwa [ha] at this
  exact Kd.R_seg h i h0 h1 (c := [.int .u8 (rd_T53 xs i).f0, .int .i64 (rd_T53 xs i).f1, .int .i64 (rd_T53 xs i).f2, .int .i64 (rd_T53 xs i).f3, .int .i64 (rd_T53 xs i).f4]) (seg := [.int .i64 v]) (j := 4) (okp := fun _ => False) rfl hcc (Nat.le_refl 5) (k53_mkM _ _ _ ⟨(rd_T53 xs i).f0, (rd_T53 xs i).f1, (rd_T53 xs i).f2, (rd_T53 xs i).f3, v⟩) (fun _ h => h.elim)
def patchTo (st : GSt) (k : Nat) : List S53 := (st.patches.take k).foldl (patch1 st.starts) st.code
theorem patchTo_len (st : GSt) (k : Nat) : (patchTo st k).length = st.code.length := by
  unfold patchTo
  generalize st.patches.take k = l
  generalize st.code = c
  induction l generalizing c with
  | nil => rfl
  | cons p l ih => rw [List.foldl_cons, ih]; simp [patch1]
theorem patchTo_step (st : GSt) (k : Int) (h0 : 0 ≤ k) (h1 : k < st.patches.length) : patch1 st.starts (patchTo st k.toNat) (rdTwo st.patches k) = patchTo st (k + 1).toNat := by
  rw [show (k + 1).toNat = k.toNat + 1 from by omega]
  unfold patchTo
  rw [List.take_add_one, List.getElem?_eq_getElem (by omega)]
  simp only [Option.toList_some, List.foldl_append, List.foldl_cons, List.foldl_nil, rdTwo, List.getD_eq_getElem?_getD]
  rw [List.getElem?_eq_getElem (by omega)]
  rfl
/-- the patches lie within the code, their blocks among the blocks -/
def patchOk (st : GSt) : Prop := (∀ p ∈ st.patches, (0 ≤ p.1 ∧ p.1 < st.code.length) ∧ 0 ≤ p.2 ∧ p.2 < st.starts.length) ∧ ∀ x ∈ st.starts, 0 ≤ x ∧ x ≤ 1000000
theorem task_info : (Try.prog.info? 31).map (·.size) = some 4 := by kernel_rfl
theorem task_ret {R : Ending → World → Prop} {a : Act} {w : World} (g : Nat) (c0 c1 c2 c3 v : Value) (hp : a.tmps.getD 2 undef = .pointer (some ⟨g, 0, none⟩)) (h3 : a.tmps.getD 3 undef = v) (hg : w.heap[g]? = some (.cells #[c0, c1, c2, c3] 31 (0, 0))) (hd : a.defers = [])
    (hR : R (.returned (.tuple #[.agg #[c0, c1, c2, c3], v])) w) : bodyPost Try.prog Try.f12 R .ret a w := by
  refine bodyPost_ret (v := .tuple #[.agg #[c0, c1, c2, c3], v]) ?_ hd hR
  rw [results_cell_tmp (p := 2) (u := 3) (ty := 31) rfl, hp, h3]
  simp only [asAddr, Sem.run_pure, Result.andThen_ok]
  rw [run_loadVar_row w g 31 31 #[c0, c1, c2, c3] (0, 0) _ hg Try.underlying31 rfl task_info]
  rfl
theorem blk_post {w0 : World} {g : Nat} {O : Nat → Prop} {E : GEnv} {st : GSt} {w2 W w : World} (h : GPost w0.heap.size g O E w2 st W) (hk : Below W.heap.size W w) (hB2 : Below w0.heap.size w0 w2)
    (Ap : Option Addr) (cp : Nat) (places : List (Int × Int)) (N : Nat) (m : ByteArray → Int) (A3 : Option Addr) (c3 : Nat) (blks : List S49) (k : Int) (hP : Kd.C kTwo w0 Ap places.length places) (hpv : E.pv = .slice Ap places.length cp)
    (hr3 : Kd.C k49 w0 A3 blks.length blks) (hcp3 : blks.length ≤ c3) (hm3 : blks.length ≤ 1000000) (hbv : E.bv = .slice A3 blks.length c3) (k0 : 0 ≤ k) (k1 : k < blks.length)
    (hM : GMap w2 E.mb N m) (hmg : E.mb ≠ g) (hmO : ¬ O E.mb) (s0 : 0 ≤ E.spill) (s1 : E.spill ≤ 1000000) (hpl : ∀ v, (rdTwo places v).2 ≤ 1000000) (hpre : blkPre places.length (rd_T49 blks k))
    (hsz : st.code.length + 8 * (rd_T49 blks k).f0.length + 20 ≤ 1000000) (hrz : st.refs.length + (rd_T49 blks k).f0.length + 1 ≤ 1000000) (hsz2 : st.starts.length + 1 ≤ 1000000) (hsz3 : st.patches.length + 2 ≤ 1000000) :
    Calls Try.prog 30 #[.pointer (some ⟨g, 0, none⟩), .int .i64 k] w
      fun e w' => e = .returned (.tuple #[]) ∧ GPost w0.heap.size g O E w2 (genBlk E.spill places m st k (rd_T49 blks k)) w' := by
  have hB := h.base
  have hb := (hB2.trans (gpost_below h)).trans (hk.mono hB)
  have hM' := (hM.post h hmg hmO).below hk
  have hml := hM.lt
  obtain ⟨O1, hG, hO, hk1⟩ := h
  have hmO1 : ¬ O1 E.mb := fun h3 => by
    rcases hO _ h3 with h | h
    · exact hmO h
    · omega
  exact (block_any w0 g O1 E st Ap cp places N m A3 c3 blks k w (hG.below hk) hb hP hpv hr3 hcp3 hm3 hbv k0 k1 hM' hmg hmO1 s0 s1 hpl hpre hsz hrz hsz2 hsz3).mono (fun e w' ⟨r, q⟩ => ⟨r, GPost.trans hk1 hO (GPost.pre hB hk q)⟩)
theorem allocOk_pl {regs : Int} {places : List (Int × Int)} {slots : Int} (h : AllocOk regs places slots) (v : Int) : (rdTwo places v).2 ≤ 1000000 := by
  unfold rdTwo
  rw [List.getD_eq_getElem?_getD]
  cases hg : places[v.toNat]? with
  | none => simp
  | some p =>
    have h1 := h.2.2.1
    rcases h.2.2.2 p (List.mem_of_getElem? hg) with h2 | h2
    · simp; omega
    · simp; omega
set_option maxRecDepth 100000 in
set_option maxHeartbeats 4000000 in
theorem task_any (P : List (Int × Int) → Int → Prop) (K : Nat) (nm : ByteArray) (regs : Int) (A : Option Addr) (c : Nat) (arrs : List S44) (A3 : Option Addr) (c3 : Nat) (blks : List S49) (ment : List S44) (addr : List Int) (size : Int) (w : World)
    (hr : Kd.C k44 w A arrs.length arrs) (hcp : arrs.length ≤ c)
    (hr3 : Kd.C k49 w A3 blks.length blks) (hcp3 : blks.length ≤ c3) (hm3 : blks.length ≤ 10000) (hmc : ∀ b ∈ blks, b.f0.length ≤ 1000000)
    (hment : codegen_mentioned.f K nm regs arrs blks = some ment) (hmm : ment.length ≤ 9223372036854775806) (hlay : codegen_Layout.f K arrs = some (addr, size)) (hs01 : irOk regs arrs blks ment = true → 0 ≤ size ∧ size ≤ 1000000000000) (hal : addr.length = arrs.length) (hna0 : irOk regs arrs blks ment = true → arrs.length ≤ 1000000) (hns : ∀ a ∈ arrs, a.f0.size ≤ maxLen) (hwf : ∀ x ∈ addr, (Lit.int .i64 x).wf = true) (hbp : irOk regs arrs blks ment = true → ∀ b ∈ blks, blkPre regs.toNat b) (hsum : sumTo blks blks.length ≤ 50000)
    (htp : irOk regs arrs blks ment = true → ∀ places slots, AllocOk regs places slots → patchOk (genTask arrs addr size blks places slots))
    (hA : irOk regs arrs blks ment = true → ∀ W, Below w.heap.size w W → Calls Try.prog 28 #[.agg #[.string nm, .int .i64 regs, .slice A arrs.length c, .slice A3 blks.length c3]] W
      fun e W' => ∃ places slots Ap cp, P places slots ∧ e = .returned (.tuple #[.agg #[.slice Ap places.length cp, .int .i64 slots], .int .i64 0]) ∧ Kd.C kTwo W' Ap places.length places ∧ AllocOk regs places slots ∧ Below W.heap.size W W') :
    Calls Try.prog 12 #[.agg #[.string nm, .int .i64 regs, .slice A arrs.length c, .slice A3 blks.length c3]] w
      fun e w' => (irOk regs arrs blks ment = false ∧ e = .returned (.tuple #[zeroObj, .int .i64 3]) ∧ Below w.heap.size w w') ∨ (irOk regs arrs blks ment = true ∧ ∃ places slots, P places slots ∧ AllocOk regs places slots ∧ TaskOut nm arrs addr size blks places slots e w w') := by
  have HR := Aside0.mk hr; have HR3 := Aside0.mk hr3; have HMC := Aside0.mk hmc; have HME := Aside0.mk hment; have HLA := Aside0.mk hlay; have HA := Aside0.mk hA; have HNS := Aside0.mk hns; have HWF := Aside0.mk hwf; have HBP := Aside0.mk hbp; have HTP := Aside0.mk htp; have HS01 := Aside0.mk hs01; have HNA0 := Aside0.mk hna0
  clear hr hr3 hmc hment hlay hA hns hwf hbp htp hs01 hna0
  have hu := Try.underlying25
  have hu2 := Try.underlying31
  have hu3 := Try.underlying83
  have hu4 := Try.underlying90
  obtain ⟨W1, hW1⟩ : ∃ W1, (w.alloc (.cells #[.string nm, .int .i64 regs, .slice A arrs.length c, .slice A3 blks.length c3] 25)).alloc (.cells #[.string ⟨#[]⟩, .slice none 0 0, .int .i64 0, .slice none 0 0] 31) = W1 := ⟨_, rfl⟩
  have hb1 : Below w.heap.size w W1 := by rw [← hW1]; exact below_alloc (below_alloc (Below.refl _ _) _) _
  have hF1 : W1.heap[w.heap.size]? = some (.cells #[.string nm, .int .i64 regs, .slice A arrs.length c, .slice A3 blks.length c3] 25 (0, 0)) := by rw [← hW1]; exact blk_alloc (blk_new _ _) _
  have hO1 : W1.heap[w.heap.size + 1]? = some (.cells #[.string ⟨#[]⟩, .slice none 0 0, .int .i64 0, .slice none 0 0] 31 (0, 0)) := by rw [← hW1]; exact heap_alloc_at _ _ _ (by simp)
  have HB1 := Aside0.mk hb1; have HF1 := Aside0.mk hF1; have HO1 := Aside0.mk hO1
  obtain ⟨f0, f1, f2, f3⟩ := blk4 hF1
  obtain ⟨o0, o1, o2, o3⟩ := blk4 hO1
  have hlF := blk_lt hF1
  have hlO := blk_lt hO1
  clear hb1 hF1 hO1
  have hm : (K : Nat) = K := rfl
  go_enter Try.func12, Try.ntmps12
  go_wp2_with fail
  have HV : Aside0 (∀ A2 c2 W v, Below w.heap.size w W → Kd.C k44 W A2 ment.length ment → ment.length ≤ c2 → irOk regs arrs blks ment = v → Calls Try.prog 13 #[.agg #[.string nm, .int .i64 regs, .slice A arrs.length c, .slice A3 blks.length c3], .slice A2 ment.length c2] W
      fun e w' => e = .returned (.bool v) ∧ Below W.heap.size W w') := ⟨fun A2 c2 W v hW h2 hc2 hv => by
    subst hv
    exact irValid_any nm regs A c arrs A3 c3 blks A2 c2 ment W (Kd.C_below HR.out hW) hcp (Kd.C_below HR3.out hW) hcp3 (by omega) (fun b hb => by have := HMC.out b hb; omega) h2 hc2 hmm⟩
  have HMN : Aside0 (∀ W, Below w.heap.size w W → Calls Try.prog 27 #[.agg #[.string nm, .int .i64 regs, .slice A arrs.length c, .slice A3 blks.length c3]] W
      fun e w' => ∃ A2 c2, e = .returned (.slice A2 ment.length c2) ∧ ment.length ≤ c2 ∧ Kd.C k44 w' A2 ment.length ment ∧ Below W.heap.size W w') := ⟨fun W hW => by
    refine (codegen_mentioned.calls K nm regs A c arrs A3 c3 blks ment W (Kd.C_below HR.out hW) hcp (Kd.C_below HR3.out hW) hcp3 HME.out).mono ?_
    rintro e w' ⟨v, rfl, hR, hb⟩
    obtain ⟨A2, c2, rfl, hl, hC⟩ := Kd.R_reads hR
    exact ⟨A2, c2, rfl, hl, hC, hb⟩⟩
  cases hv : irOk regs arrs blks ment with
  | false =>
    have HVV := Aside0.mk hv; clear hv
    go_region_held3 (fun W => W.cell? ⟨w.heap.size, 0, none⟩ = some (.string nm) ∧ W.cell? ⟨w.heap.size, 1, none⟩ = some (.int .i64 regs) ∧ W.cell? ⟨w.heap.size, 2, none⟩ = some (.slice A arrs.length c) ∧ W.cell? ⟨w.heap.size, 3, none⟩ = some (.slice A3 blks.length c3) ∧ Aside0 (Below W1.heap.size W1 W))
      (first
        | exact ⟨by go_keep, by go_keep, by go_keep, by go_keep, ⟨below_drew (Below.refl _ _)⟩⟩
        | (go_split_ands; exact ⟨keepCell hlF (by assumption) hb2 (by assumption), keepCell hlF (by assumption) hb2 (by assumption), keepCell hlF (by assumption) hb2 (by assumption), keepCell hlF (by assumption) hb2 (by assumption), keepBelow (by assumption) hb2⟩))
      (first
        | (go_at_call 27
           with_reducible refine (HMN.out _ (below_step HB1.out (Aside0.out ?_))).mono ?_
           (go_split_ands; assumption)
           rintro e w2 ⟨A2, c2, rfl, hl2, hC2, hb2⟩
           have HC2 := Aside0.mk hC2; have HL2 := Aside0.mk hl2; clear hC2 hl2)
        | (go_at_call 13
           with_reducible refine (HV.out A2 c2 _ false (below_step HB1.out (Aside0.out ?_)) HC2.out HL2.out HVV.out).mono ?_
           (go_split_ands; assumption)
           rintro e w3 ⟨rfl, hb2⟩))
    have hb3 : Below W1.heap.size W1 w3 := by go_split_ands; exact Aside0.out (by assumption)
    have hO3 := blk_below HO1.out hb3
    have fr0 := blk_frozen hO3 0
    have fr1 := blk_frozen hO3 1
    have fr2 := blk_frozen hO3 2
    have fr3 := blk_frozen hO3 3
    have hl3 := blk_lt hO3
    clear o0 o1 o2 o3
    obtain ⟨o0, o1, o2, o3⟩ := blk4 hO3
    have HO3 := Aside0.mk hO3
    have HB3 := Aside0.mk (below_step HB1.out hb3)
    clear hO3 hb3 hb2
    go_wp2_with fail
    exact task_ret (w.heap.size + 1) _ _ _ _ _ rfl rfl (blk_put (blk_put (blk_put (blk_put HO3.out 0 _ rfl) 1 _ rfl) 2 _ rfl) 3 _ rfl) rfl
      (.inl ⟨HVV.out, rfl, below_set (below_set (below_set (below_set HB3.out (by omega)) (by omega)) (by omega)) (by omega)⟩)
  | true =>
    have HVV := Aside0.mk hv; clear hv
    obtain ⟨hs0, hs1⟩ := HS01.out HVV.out
    have hna := HNA0.out HVV.out
    go_region_held3 (fun W => W.cell? ⟨w.heap.size, 0, none⟩ = some (.string nm) ∧ W.cell? ⟨w.heap.size, 1, none⟩ = some (.int .i64 regs) ∧ W.cell? ⟨w.heap.size, 2, none⟩ = some (.slice A arrs.length c) ∧ W.cell? ⟨w.heap.size, 3, none⟩ = some (.slice A3 blks.length c3) ∧ Aside0 (Below W1.heap.size W1 W))
      (first
        | exact ⟨by go_keep, by go_keep, by go_keep, by go_keep, ⟨below_drew (Below.refl _ _)⟩⟩
        | (go_split_ands; exact ⟨keepCell hlF (by assumption) hb2 (by assumption), keepCell hlF (by assumption) hb2 (by assumption), keepCell hlF (by assumption) hb2 (by assumption), keepCell hlF (by assumption) hb2 (by assumption), keepBelow (by assumption) hb2⟩))
      (first
        | (go_at_call 27
           with_reducible refine (HMN.out _ (below_step HB1.out (Aside0.out ?_))).mono ?_
           (go_split_ands; assumption)
           rintro e w2 ⟨A2, c2, rfl, hl2, hC2, hb2⟩
           have HC2 := Aside0.mk hC2; have HL2 := Aside0.mk hl2; clear hC2 hl2)
        | (go_at_call 13
           with_reducible refine (HV.out A2 c2 _ true (below_step HB1.out (Aside0.out ?_)) HC2.out HL2.out HVV.out).mono ?_
           (go_split_ands; assumption)
           rintro e w3 ⟨rfl, hb2⟩))
    have hb3 : Below W1.heap.size W1 w3 := by go_split_ands; exact Aside0.out (by assumption)
    have HO3 := Aside0.mk (blk_below HO1.out hb3)
    have HF3 := Aside0.mk (blk_below HF1.out hb3)
    have HB3 := Aside0.mk (below_step HB1.out hb3)
    clear f0 f1 f2 f3 o0 o1 o2 o3
    obtain ⟨f0, f1, f2, f3⟩ := blk4 HF3.out
    have hl3 := blk_lt HF3.out
    clear hb3 hb2
    have hdone : (K : Nat) = K := rfl
    go_wp2_with (first
      | (go_at_call 28
         refine (HA.out HVV.out _ HB3.out).mono ?_
         rintro e w4 ⟨places, slots, Ap, cp, hP, rfl, hPl, hAO, hb4⟩
         have HPP := Aside0.mk hP; have HPl := Aside0.mk hPl; have HAO := Aside0.mk hAO; have HO4 := Aside0.mk (blk_below HO3.out hb4); have HF4 := Aside0.mk (blk_below HF3.out hb4); have HB4 := Aside0.mk (below_step HB3.out hb4)
         clear f0 f1 f2 f3
         obtain ⟨f0, f1, f2, f3⟩ := blk4 HF4.out
         have hl4 := blk_lt HF4.out
         have HA5 := Aside0.mk (blk_new w4 (.cells #[.slice Ap places.length cp, .int .i64 slots] 83))
         have hw5 : Below w4.heap.size w4 (w4.alloc (.cells #[.slice Ap places.length cp, .int .i64 slots] 83)) := below_alloc (Below.refl _ _) _
         have HW5 := Aside0.mk hw5
         clear hP hPl hAO hb4 hw5)
      | (go_at_call 15
         refine (codegen_Layout.calls K A c arrs addr size _ (Kd.C_below HR.out (below_step HB4.out HW5.out)) hcp HLA.out).mono ?_
         rintro e w6 ⟨v0, rfl, hR6, hb6⟩
         obtain ⟨A6, c6, rfl, hl6, hC6⟩ := Kd.R_reads hR6
         have HO6 := Aside0.mk (blk_below (blk_below HO4.out HW5.out) hb6); have HF6 := Aside0.mk (blk_below (blk_below HF4.out HW5.out) hb6); have HA6 := Aside0.mk (blk_below HA5.out hb6)
         have HPl6 := Aside0.mk (Kd.C_below HPl.out (below_step HW5.out hb6))
         have HB6 := Aside0.mk (below_step HB4.out (below_step HW5.out hb6))
         have HC6 := Aside0.mk hC6
         clear f0 f1 f2 f3
         obtain ⟨f0, f1, f2, f3⟩ := blk4 HF6.out
         obtain ⟨a0, a1⟩ := blk2 HA6.out
         have hlf6 := blk_lt HF6.out
         have hla6 := blk_lt HA6.out
         have hlc6 := hl6
         have hAO := HAO.out
         have hws : IntKind.i64.wrap (size + slots) = size + slots := IntWalk.i64_in _ (by have h1 := hAO.2.1; have h2 := hAO.2.2.1; omega)
         have hmk : (Instr.makeMap 87 none).run Try.prog w6 = .ok (.map (some w6.heap.size)) (w6.alloc (.map #[] 0)) := rfl
         clear hR6 hC6 hb6 hAO))
    obtain ⟨W8, hW8⟩ : ∃ W8, (w6.alloc (.map #[] 0)).alloc (.cells #[.string nm, .slice none 0 0, .int .i64 (size + slots), .slice none 0 0, .string nm, .int .i64 regs, .slice A arrs.length c, .slice A3 blks.length c3, .slice Ap places.length cp, .int .i64 slots, .map (some w6.heap.size), .int .i64 size, .slice none 0 0, .slice none 0 0] 90) = W8 := ⟨_, rfl⟩
    rw [hW8]
    obtain ⟨E, hE⟩ : ∃ E : GEnv, E = ⟨nm, size + slots, nm, regs, .slice A arrs.length c, .slice A3 blks.length c3, .slice Ap places.length cp, slots, w6.heap.size, size⟩ := ⟨_, rfl⟩
    have HB8 : Aside0 (Below w6.heap.size w6 W8) := ⟨by rw [← hW8]; exact below_alloc (below_alloc (Below.refl _ _) _) _⟩
    have HG8 : Aside0 (Gen W8 w6.heap.size (w6.heap.size + 1) (fun _ => False) E ⟨[], [], [], []⟩) := ⟨by
      refine ⟨.slice none 0 0, .slice none 0 0, .slice none 0 0, .slice none 0 0, ?_, by omega, HB8.out.size, fun _ h => h.elim, Kd.R_nil _ _ _ _ _, Kd.R_nil _ _ _ _ _, Kd.R_nil _ _ _ _ _, Kd.R_nil _ _ _ _ _⟩
      rw [← hW8, hE]; exact heap_alloc_at _ _ _ (by simp)⟩
    have HM8 : Aside0 (GMap W8 w6.heap.size 0 (mapTo arrs addr 0)) := ⟨by rw [← hW8]; exact (gmap_made w6).below (below_alloc (Below.refl _ _) _)⟩
    have HF8 := Aside0.mk (blk_below HF6.out HB8.out)
    clear f0 f1 f2 f3 a0 a1 hmk
    have HE := Aside0.mk hE
    clear hE hW8
    have hmb : E.mb = w6.heap.size := by rw [HE.out]
    go_loopw [52] (fun i wr => ∃ k : Int, i = .int .i64 k ∧ 0 ≤ k ∧ k ≤ arrs.length ∧ Aside0 (Gen wr w6.heap.size (w6.heap.size + 1) (fun _ => False) E ⟨[], [], [], []⟩) ∧ Aside0 (GMap wr w6.heap.size k.toNat (mapTo arrs addr k.toNat)) ∧ Aside0 (Below w6.heap.size w6 wr)) (fun i wr => arrs.length - (intOf i).toNat)
    case atStart => exact ⟨0, rfl, Int.le_refl _, by omega, HG8, HM8, HB8⟩
    case round =>
      obtain ⟨k, rfl, hk0, hk, HG, HM, HB⟩ := hrel
      have hgr := HG.out.lt
      have cg2 : wr.cell? ⟨w6.heap.size + 1, 2, none⟩ = some (.int .i64 (size + slots)) := by
        obtain ⟨_, _, _, _, hb, _⟩ := HG.out
        exact (blk_cell hb 2).trans (by rw [HE.out]; rfl)
      have cg10 : wr.cell? ⟨w6.heap.size + 1, 10, none⟩ = some (.map (some w6.heap.size)) := by
        obtain ⟨_, _, _, _, hb, _⟩ := HG.out
        exact (blk_cell hb 10).trans (by rw [HE.out]; rfl)
      by_cases hlt : k < arrs.length
      · obtain ⟨ad, hA', h0, h1⟩ := at_T44 HR.out k hk0 hlt
        cases hA'
        have HBw : Aside0 (Below w.heap.size w wr) := ⟨below_step HB6.out HB.out⟩
        replace h0 := (HBw.out.cell (World.block_lt_of_cell? w _ h0)).trans h0
        replace h1 := (HBw.out.cell (World.block_lt_of_cell? w _ h1)).trans h1
        obtain ⟨ad7, hA7, e0⟩ := Kd.at_int HC6.out k hk0 (by omega)
        cases hA7
        replace e0 := (HB.out.cell (World.block_lt_of_cell? w6 _ e0)).trans e0
        have p110 := eq_true hk0
        have q110 := eq_true hlt
        have hns : (rd_T44 arrs k).f0.size ≤ maxLen := HNS.out _ (mem_rd hk0 hlt)
        have hkm : k.toNat < maxLen := Nat.lt_of_le_of_lt (show k.toNat ≤ 1000001 by omega) (by decide)
        obtain ⟨w', hrun, hM', hg'⟩ := ((HM.out.below (below_alloc (Below.refl _ _) (.cells #[.string (rd_T44 arrs k).f0, .int .i64 (rd_T44 arrs k).f1] 44))).below (below_drew (Below.refl _ _))).put hkm hns (rd addr k) (HWF.out _ (mem_rd hk0 (by omega)))
        have e1 : (wr.alloc (.cells #[.string (rd_T44 arrs k).f0, .int .i64 (rd_T44 arrs k).f1] 44)).cell? (ad7.add k.toNat) = _ := ((below_alloc (Below.refl _ _) _).cell (World.block_lt_of_cell? wr _ e0)).trans e0
        go_wp2_with fail
        go_region
        go_wp2
        go_roundw
        case rel =>
          refine ⟨k + 1, rfl, by omega, by omega, ⟨?_⟩, ⟨?_⟩, ⟨?_⟩⟩
          · exact ((HG.out.below (below_alloc (Below.refl _ _) _)).below (below_drew (Below.refl _ _))).kept (S := fun j => j = w6.heap.size) (Kept.of_grown hg' (Kept.refl _ _) (fun j hj => .inl (by injection hj with hj; exact hj.symm))) (by omega) (fun _ h => h.elim)
          · rw [show (k + 1).toNat = k.toNat + 1 from by omega]
            rw [show k = ((k.toNat : Nat) : Int) from by omega] at hM'
            exact hM'
          · exact (HB.out.trans ((below_drew (below_alloc (Below.refl _ _) _)).mono HB.out.size)).grown hg' (by have := HB.out.size; simp; omega) (fun j hj => by injection hj with hj; omega)
        case measure => simp [intOf]; omega
      · have hke : k.toNat = arrs.length := by omega
        have HM9 : Aside0 (GMap wr E.mb arrs.length (mapTo arrs addr arrs.length)) := ⟨by rw [hmb]; have h := HM.out; rw [hke] at h; exact h⟩
        have HF9 := Aside0.mk (blk_below HF6.out HB.out)
        have HA9 := Aside0.mk (blk_below HA6.out HB.out)
        have HO9 := Aside0.mk (blk_below HO6.out HB.out)
        obtain ⟨f0, f1, f2, f3⟩ := blk4 HF9.out
        obtain ⟨a0, a1⟩ := blk2 HA9.out
        have hlF9 := blk_lt HF9.out
        have hlA9 := blk_lt HA9.out
        have HP9 : Aside0 (Kd.C kTwo w6 Ap places.length places) := HPl6
        have HR39 : Aside0 (Kd.C k49 w6 A3 blks.length blks) := ⟨Kd.C_below HR3.out HB6.out⟩
        have HBB9 := Aside0.mk (below_step HB6.out HB.out)
        clear HM hke
        by_cases hbig : 512 < size + slots
        · have hbig' := eq_true hbig
          obtain ⟨o0, o1, o2, o3⟩ := blk4 HO9.out
          have fr0 := blk_frozen HO9.out 0
          have fr1 := blk_frozen HO9.out 1
          have fr2 := blk_frozen HO9.out 2
          have fr3 := blk_frozen HO9.out 3
          have hlO9 := blk_lt HO9.out
          go_wp2_with fail
          exact task_ret (w.heap.size + 1) _ _ _ _ _ rfl rfl (blk_put (blk_put (blk_put (blk_put HO9.out 0 _ rfl) 1 _ rfl) 2 _ rfl) 3 _ rfl) rfl
            (.inr ⟨HVV.out, places, slots, HPP.out, HAO.out, .inl ⟨.inl hbig, rfl, below_set (below_set (below_set (below_set HBB9.out (by omega)) (by omega)) (by omega)) (by omega)⟩⟩)
        · have hbig' : ¬ (512 < size + slots) := hbig
          have hsp : E.spill = size := by rw [HE.out]
          obtain ⟨W2, rfl⟩ : ∃ W2 : World, W2 = wr := ⟨_, rfl⟩
          have HQ0 : Aside0 (GPost w6.heap.size (w6.heap.size + 1) (fun _ => False) E W2 ⟨genStores size 0, [], [], []⟩ W2) := ⟨GPost.same HG.out⟩
          have hsl0 := HAO.out.2.1
          have hsl1 := HAO.out.2.2.1
          have HWB2 : Aside0 (Below w6.heap.size w6 W2) := ⟨HB.out⟩
          go_wp2_with fail
          clear f0 f1 f2 f3 a0 a1 cg2 cg10 HG HB
          go_loopw [77] (fun i wr => ∃ k : Int, i = .int .i64 k ∧ 0 ≤ k ∧ k ≤ slots ∧ Aside0 (GPost w6.heap.size (w6.heap.size + 1) (fun _ => False) E W2 ⟨genStores size k.toNat, [], [], []⟩ wr)) (fun i wr => slots.toNat - (intOf i).toNat)
          case atStart => exact ⟨0, rfl, Int.le_refl _, hsl0, HQ0⟩
          case round =>
            obtain ⟨k2, rfl, hk20, hk2, HQ⟩ := hrel
            by_cases hlt2 : k2 < slots
            · have c11 := gpost_cell11 HQ.out
              rw [hsp] at c11
              have hlg := World.block_lt_of_cell? wr _ c11
              have hwk : IntKind.i64.wrap (size + k2) = size + k2 := IntWalk.i64_in _ (by omega)
              go_wp2_with (first
                | (go_at_call 29
                   with_reducible refine (emit1_post HQ.out ?_ _ 53 19 0 0 0 (size + k2) ?_ ?_).mono ?_
                   (first | exact Below.refl _ _ | exact below_drew (Below.refl _ _) | exact below_alloc (Below.refl _ _) _ | exact below_drew (below_alloc (Below.refl _ _) _))
                   (first | exact blk_new _ _ | exact blk_drew (blk_new _ _))
                   (simp only [genStores, List.length_map, List.length_range]; omega)
                   rintro e w9 ⟨rfl, hq9⟩
                   have hq := Aside0.mk hq9; clear hq9))
              go_roundw
              case rel =>
                refine ⟨k2 + 1, rfl, by omega, by omega, ⟨gpost_code hq.out ?_⟩⟩
                rw [show (k2 + 1).toNat = k2.toNat + 1 from by omega, genStores_succ, show ((k2.toNat : Nat) : Int) = k2 from by omega]
                rfl
              case measure => simp [intOf]; omega
            · have hke2 : k2.toNat = slots.toNat := by omega
              have HQ2 : Aside0 (GPost w6.heap.size (w6.heap.size + 1) (fun _ => False) E W2 (genTo size places (mapTo arrs addr arrs.length) blks ⟨genStores size slots.toNat, [], [], []⟩ 0) wr) := ⟨by have h := HQ.out; rw [hke2] at h; exact h⟩
              clear HQ hke2 hk2 hk20
              obtain ⟨f0, f1, f2, f3⟩ := blk4 (gpost_blk HQ2.out HF9.out (by omega) (fun h => h))
              have hlF2 := blk_lt (gpost_blk HQ2.out HF9.out (by omega) (fun h => h))
              go_wp2_with fail
              clear f0 f1 f2 f3
              go_loopw [94] (fun i wr => ∃ k : Int, i = .int .i64 k ∧ 0 ≤ k ∧ k ≤ blks.length ∧ Aside0 (GPost w6.heap.size (w6.heap.size + 1) (fun _ => False) E W2 (genTo size places (mapTo arrs addr arrs.length) blks ⟨genStores size slots.toNat, [], [], []⟩ k.toNat) wr)) (fun i wr => blks.length - (intOf i).toNat)
              case atStart => exact ⟨0, rfl, Int.le_refl _, by omega, HQ2⟩
              case round =>
                obtain ⟨k3, rfl, hk30, hk3, HQ⟩ := hrel
                have hz := genTo_sz size places (mapTo arrs addr arrs.length) blks ⟨genStores size slots.toNat, [], [], []⟩ k3.toNat
                have hst0 : (genStores size slots.toNat).length ≤ 10000 := by simp only [genStores, List.length_map, List.length_range]; omega
                simp only [List.length_nil] at hz
                obtain ⟨hz1, hz2, hz3, hz4⟩ := hz
                have hsk : sumTo blks k3.toNat ≤ sumTo blks blks.length := sumTo_le blks (by omega)
                by_cases hlt3 : k3 < blks.length
                · have hsk1 : sumTo blks (k3.toNat + 1) ≤ sumTo blks blks.length := sumTo_le blks (by omega)
                  have hkk : ((k3.toNat : Nat) : Int) = k3 := by omega
                  have hsk2 : sumTo blks k3.toNat + (rd_T49 blks k3).f0.length ≤ 50000 := by
                    simp only [sumTo, hkk] at hsk1
                    omega
                  have HSZ : Aside0 (_ ∧ _ ∧ _ ∧ _) := ⟨hz1, hz2, hz3, hz4⟩
                  have hpre : blkPre places.length (rd_T49 blks k3) := by
                    have h1 := HBP.out HVV.out _ (mem_rd (xs := blks) (z := z49) hk30 hlt3)
                    rw [show places.length = regs.toNat from by have := HAO.out.1; omega]
                    exact h1
                  have HPRE := Aside0.mk hpre
                  clear hpre
                  go_wp2_with (first
                    | (go_at_call 30
                       refine (blk_post HQ.out (Below.refl _ _) HWB2.out Ap cp places arrs.length (mapTo arrs addr arrs.length) A3 c3 blks k3 HP9.out (by rw [HE.out]) HR39.out hcp3 (by omega) (by rw [HE.out]) hk30 hlt3 HM9.out (by rw [hmb]; omega) (fun h => h) (by rw [hsp]; omega) (by rw [hsp]; omega) (allocOk_pl HAO.out) HPRE.out ?_ ?_ ?_ ?_).mono ?_
                       (omega)
                       (omega)
                       (omega)
                       (omega)
                       rintro e w9 ⟨rfl, hq9⟩
                       rw [hsp] at hq9
                       have hq := Aside0.mk hq9; clear hq9))
                  go_roundw
                  case rel =>
                    refine ⟨k3 + 1, rfl, by omega, by omega, ⟨gpost_code hq.out ?_⟩⟩
                    rw [show (k3 + 1).toNat = k3.toNat + 1 from by omega, genTo, hkk]
                  case measure => simp [intOf]; omega
                · have hke3 : k3.toNat = blks.length := by omega
                  rw [hke3] at hz1 hz2 hz3 hz4
                  have HQ3 : Aside0 (GPost w6.heap.size (w6.heap.size + 1) (fun _ => False) E W2 (genTask arrs addr size blks places slots) wr) := ⟨by have h := HQ.out; rw [hke3] at h; exact h⟩
                  rw [show genTo size places (mapTo arrs addr arrs.length) blks ⟨genStores size slots.toNat, [], [], []⟩ blks.length = genTask arrs addr size blks places slots from rfl] at hz1 hz2 hz3 hz4
                  clear HQ hke3 hk3 hk30 hsk
                  obtain ⟨O3, hG3, hO3, hK3⟩ := HQ3.out
                  obtain ⟨vc, vr, vs, vp, hb3, hBg3, hBW3, hOl3, r1, r2, r3, r4⟩ := hG3
                  obtain ⟨Ac, cc, hvc⟩ := Kd.R_slice r1
                  obtain ⟨Apt, cpt, hvp⟩ := Kd.R_slice r4
                  obtain ⟨As, cs, hvs⟩ := Kd.R_slice r3
                  subst hvc hvp hvs
                  have HO10 := Aside0.mk (gpost_blk HQ3.out HO9.out (by omega) (fun h => h))
                  have HBB10 : Aside0 (Below w.heap.size w wr) := ⟨HBB9.out.trans ((gpost_below HQ3.out).mono HB6.out.size)⟩
                  have HK3 := Aside0.mk hK3; have HOL := Aside0.mk hOl3
                  have HG3 := Aside0.mk hb3; have HR1 := Aside0.mk r1; have HR2 := Aside0.mk r2; have HRS := Aside0.mk r3; have HRP := Aside0.mk r4
                  have d1 : wr.cell? ⟨w6.heap.size + 1, 1, none⟩ = some (.slice Ac (genTask arrs addr size blks places slots).code.length cc) := (blk_cell hb3 1).trans rfl
                  have d13 : wr.cell? ⟨w6.heap.size + 1, 13, none⟩ = some (.slice Apt (genTask arrs addr size blks places slots).patches.length cpt) := (blk_cell hb3 13).trans rfl
                  have hlg := blk_lt hb3
                  clear hb3 r1 r2 r3 r4 hK3 hO3 hOl3
                  by_cases hc : 4096 < (genTask arrs addr size blks places slots).code.length
                  · have hci := eq_true (show (4096 : Int) < ((genTask arrs addr size blks places slots).code.length : Int) by omega)
                    have hcn := eq_true hc
                    obtain ⟨o0, o1, o2, o3⟩ := blk4 HO10.out
                    have fr0 := blk_frozen HO10.out 0
                    have fr1 := blk_frozen HO10.out 1
                    have fr2 := blk_frozen HO10.out 2
                    have fr3 := blk_frozen HO10.out 3
                    have hlO9 := blk_lt HO10.out
                    go_wp2_with fail
                    exact task_ret (w.heap.size + 1) _ _ _ _ _ rfl rfl (blk_put (blk_put (blk_put (blk_put HO10.out 0 _ rfl) 1 _ rfl) 2 _ rfl) 3 _ rfl) rfl
                      (.inr ⟨HVV.out, places, slots, HPP.out, HAO.out, .inl ⟨.inr hc, rfl, below_set (below_set (below_set (below_set HBB10.out (by omega)) (by omega)) (by omega)) (by omega)⟩⟩)
                  · have hci := eq_false (show ¬ (4096 : Int) < ((genTask arrs addr size blks places slots).code.length : Int) by omega)
                    have hcn := eq_false hc
                    go_wp2_with fail
                    have hpok := HTP.out HVV.out places slots HAO.out
                    have HPO := Aside0.mk hpok
                    clear hpok d1 d13 hci hcn hz1 hz2 hst0
                    have HRS0 : Aside0 (Kd.R k53 53 wr w6.heap.size O3 (.slice Ac (genTask arrs addr size blks places slots).code.length cc) (patchTo (genTask arrs addr size blks places slots) 0)) := ⟨HR1.out⟩
                    have HW3 : Aside0 (Below w6.heap.size w6 wr) := ⟨HWB2.out.trans (gpost_below HQ3.out)⟩
                    obtain ⟨T, hT⟩ : ∃ T, genTask arrs addr size blks places slots = T := ⟨_, rfl⟩
                    rw [hT] at hz3 hz4 HRS0 HR2 HRS HRP HG3 HPO hc ⊢
                    have HT := Aside0.mk hT
                    clear hT HR1 HQ3 hlg
                    go_loopw [114] (fun i wr => ∃ k : Int, i = .int .i64 k ∧ 0 ≤ k ∧ k ≤ T.patches.length ∧ Aside0 (wr.heap[w6.heap.size + 1]? = some (.cells (gcells E (.slice Ac T.code.length cc) vr (.slice As T.starts.length cs) (.slice Apt T.patches.length cpt)) 90 (0, 0))) ∧
                        Aside0 (Kd.R k53 53 wr w6.heap.size O3 (.slice Ac T.code.length cc) (patchTo T k.toNat)) ∧ Aside0 (Kd.R k105 105 wr w6.heap.size O3 vr T.refs) ∧ Aside0 (Kd.R (Kd.int .i64) 3 wr w6.heap.size O3 (.slice As T.starts.length cs) T.starts) ∧
                        Aside0 (Kd.R kTwo 94 wr w6.heap.size O3 (.slice Apt T.patches.length cpt) T.patches) ∧ Aside0 (Below w6.heap.size w6 wr)) (fun i wr => T.patches.length - (intOf i).toNat)
                    case atStart => exact ⟨0, rfl, Int.le_refl _, by omega, HG3, HRS0, HR2, HRS, HRP, HW3⟩
                    case round =>
                      obtain ⟨k4, rfl, hk40, hk4, HG4, HC4, HR4, HS4, HP4, HW4⟩ := hrel
                      by_cases hlt4 : k4 < T.patches.length
                      · obtain ⟨ap, hAp, q0, q1⟩ := atTwo (Kd.R_reads' HP4.out).2.2 k4 hk40 hlt4
                        cases hAp
                        obtain ⟨⟨t0, t1⟩, t2, t3⟩ := HPO.out.1 (rdTwo T.patches k4) (mem_rd hk40 hlt4)
                        have HST := Aside0.mk (patchTo_step T k4 hk40 hlt4)
                        obtain ⟨pp, hpp⟩ : ∃ pp, rdTwo T.patches k4 = pp := ⟨_, rfl⟩
                        rw [hpp] at q0 q1 t0 t1 t2 t3 HST
                        clear hpp
                        obtain ⟨W10, hW10⟩ : ∃ W10, wr.alloc (.cells #[.int .i64 pp.1, .int .i64 pp.2] 94) = W10 := ⟨_, rfl⟩
                        have HB10 : Aside0 (Below wr.heap.size wr W10) := ⟨by rw [← hW10]; exact below_alloc (Below.refl _ _) _⟩
                        have HX10 : Aside0 (W10.heap[wr.heap.size]? = some (.cells #[.int .i64 pp.1, .int .i64 pp.2] 94 (0, 0))) := ⟨by rw [← hW10]; exact blk_new _ _⟩
                        have HG10 := Aside0.mk (blk_below HG4.out HB10.out)
                        have HC10 := Aside0.mk (Kd.R_below HC4.out HB10.out)
                        have HS10 := Aside0.mk (Kd.R_below HS4.out HB10.out)
                        have c1 : W10.cell? ⟨w6.heap.size + 1, 1, none⟩ = some (.slice Ac T.code.length cc) := (blk_cell HG10.out 1).trans rfl
                        have c12 : W10.cell? ⟨w6.heap.size + 1, 12, none⟩ = some (.slice As T.starts.length cs) := (blk_cell HG10.out 12).trans rfl
                        obtain ⟨x0, x1⟩ := blk2 HX10.out
                        obtain ⟨asx, hAs, s0⟩ := Kd.at_int (Kd.R_reads' HS10.out).2.2 pp.2 t2 t3
                        cases hAs
                        obtain ⟨ac, hAc, y0, y1, y2, y3, y4⟩ := at_T53 (Kd.R_reads' HC10.out).2.2 pp.1 t0 (by rw [patchTo_len]; exact t1)
                        obtain ⟨gc, ccs, hAc', hbc⟩ := code_addr HC10.out (by omega)
                        cases hAc
                        have hac : ac = ⟨gc, 0, none⟩ := by injection hAc'
                        have HBC := Aside0.mk hbc
                        have HAC := Aside0.mk hac
                        have hadd : (⟨(ac.add (pp.1.toNat * 5)).block, (ac.add (pp.1.toNat * 5)).off + 4, none⟩ : Addr) = ⟨gc, pp.1.toNat * 5 + 4, none⟩ := by rw [hac, add_plain]
                        have hfr : W10.frozen? ⟨(ac.add (pp.1.toNat * 5)).block, (ac.add (pp.1.toNat * 5)).off + 4, none⟩ = false := by rw [hadd]; exact blk_frozen hbc _
                        have HADD := Aside0.mk hadd
                        have hlc : (ac.add (pp.1.toNat * 5)).block < W10.heap.size := World.block_lt_of_cell? W10 _ y0
                        obtain ⟨sb0, sb1⟩ := HPO.out.2 (rd T.starts pp.2) (mem_rd t2 t3)
                        have hc4 : T.code.length ≤ 4096 := by omega
                        have hws1 : IntKind.i64.wrap (rd T.starts pp.2 - pp.1) = rd T.starts pp.2 - pp.1 := IntWalk.i64_in _ (by omega)
                        have hws2 : IntKind.i64.wrap (rd T.starts pp.2 - pp.1 - 1) = rd T.starts pp.2 - pp.1 - 1 := IntWalk.i64_in _ (by omega)
                        have p1a := eq_true t0
                        have p1b := eq_true t1
                        have p2a := eq_true t2
                        have p2b := eq_true t3
                        have p3a := eq_true hk40
                        have p3b := eq_true hlt4
                        clear hAc' hbc hac hadd y0 y1 y2 y3
                        go_wp2_with fail
                        go_region
                        go_wp2
                        go_roundw
                        case rel =>
                          have hc9 := HC10.out
                          rw [HAC.out] at hc9
                          obtain ⟨p1, p2⟩ := code_put hc9 pp.1 t0 t1 (rd T.starts pp.2 - pp.1 - 1)
                          have hne4 : w6.heap.size + 1 ≠ gc := blk_ne HG10.out HBC.out (by decide)
                          have hbase : w6.heap.size ≤ gc := Kd.R_base hc9 gc rfl
                          have hR10 := Kd.R_below HR4.out HB10.out
                          have hP10 := Kd.R_below HP4.out HB10.out
                          rw [HADD.out]
                          have hst := HST.out
                          unfold patch1 at hst
                          rw [hst] at p1
                          refine ⟨k4 + 1, rfl, by omega, by omega, ⟨?_⟩, ⟨?_⟩, ⟨?_⟩, ⟨?_⟩, ⟨?_⟩, ⟨?_⟩⟩
                          · exact blk_drew (blk_far HG10.out hne4 _)
                          · rw [HAC.out]; exact Kd.R_below p1 (below_drew (Below.refl _ _))
                          · exact Kd.R_below (Kd.R_over hR10 hc9 (by decide) p2) (below_drew (Below.refl _ _))
                          · exact Kd.R_below (Kd.R_over HS10.out hc9 (by decide) p2) (below_drew (Below.refl _ _))
                          · exact Kd.R_below (Kd.R_over hP10 hc9 (by decide) p2) (below_drew (Below.refl _ _))
                          · exact below_drew (Below.setCell (p := ⟨gc, pp.1.toNat * 5 + 4, none⟩) (HW4.out.trans (HB10.out.mono HW4.out.size)) hbase _)
                        case measure => simp [intOf]; omega
                      · have hke4 : k4.toNat = T.patches.length := by omega
                        have hC9 := HC4.out
                        rw [hke4, show patchTo T T.patches.length = patchAll T from by unfold patchTo patchAll; rw [List.take_length]] at hC9
                        have HC9 := Aside0.mk hC9
                        have HO11 := Aside0.mk (blk_below HO6.out HW4.out)
                        have HBB11 := Aside0.mk (below_step HB6.out HW4.out)
                        clear hC9 HC4 hke4
                        obtain ⟨o0, o1, o2, o3⟩ := blk4 HO11.out
                        have fr0 := blk_frozen HO11.out 0
                        have fr1 := blk_frozen HO11.out 1
                        have fr2 := blk_frozen HO11.out 2
                        have fr3 := blk_frozen HO11.out 3
                        have hlO9 := blk_lt HO11.out
                        have g0 : wr.cell? ⟨w6.heap.size + 1, 0, none⟩ = some (.string nm) := (blk_cell HG4.out 0).trans (by rw [HE.out]; rfl)
                        have g1 : wr.cell? ⟨w6.heap.size + 1, 1, none⟩ = some (.slice Ac T.code.length cc) := (blk_cell HG4.out 1).trans rfl
                        have g2 : wr.cell? ⟨w6.heap.size + 1, 2, none⟩ = some (.int .i64 (size + slots)) := (blk_cell HG4.out 2).trans (by rw [HE.out]; rfl)
                        have g3 : wr.cell? ⟨w6.heap.size + 1, 3, none⟩ = some vr := (blk_cell HG4.out 3).trans rfl
                        obtain ⟨Ar, cr, hvr⟩ := Kd.R_slice HR4.out
                        subst hvr
                        have hlG := blk_lt HG4.out
                        go_wp2_with fail
                        have hb0 := blk_put HO11.out 0 (.string nm) rfl
                        have hb1 := blk_put hb0 1 (.slice Ac T.code.length cc) rfl
                        have hb2 := blk_put hb1 2 (.int .i64 (size + slots)) rfl
                        have hb3 := blk_put hb2 3 (.slice Ar T.refs.length cr) rfl
                        refine task_ret (w.heap.size + 1) _ _ _ _ _ rfl rfl hb3 rfl (.inr ⟨HVV.out, places, slots, HPP.out, HAO.out, .inr ⟨by omega, by rw [HT.out]; omega, _, _, rfl, ?_, ?_, below_set (below_set (below_set (below_set HBB11.out (by omega)) (by omega)) (by omega)) (by omega)⟩⟩)
                        · rw [HT.out]
                          exact Kd.R_mono (Kd.R_lower (Kd.R_set (Kd.R_set (Kd.R_set (Kd.R_set HC9.out HO11.out (by decide) 0 _) hb0 (by decide) 1 _) hb1 (by decide) 2 _) hb2 (by decide) 3 _) HB6.out.size) (fun _ _ => trivial)
                        · rw [HT.out]
                          exact Kd.R_mono (Kd.R_lower (Kd.R_set (Kd.R_set (Kd.R_set (Kd.R_set HR4.out HO11.out (by decide) 0 _) hb0 (by decide) 1 _) hb1 (by decide) 2 _) hb2 (by decide) 3 _) HB6.out.size) (fun _ _ => trivial)
end Go.Proofs.Ytadaopfcgpfiiaa
namespace Go.Proofs.Ytadaopfcgpfiiaa
open Go.RowKit Go.Proofs.YtadaopfcgpfiiaaW.PrintWords Go.Proofs.YtadaopfcgpfiiaaW.PrintLast Go.Proofs.YtadaopfcgpfiiaaW.PrintMore PCg
set_option linter.unusedVariables false
set_option linter.unusedSimpArgs false
theorem w64 {n : Int} (h : -9223372036854775808 ≤ n ∧ n ≤ 9223372036854775807) : wrap64 n = n := IntWalk.wrap64_in n h
/-- the address of array k -/
def layA (arrs : List S44) : Nat → Int
  | 0 => 0
  | k + 1 => wrap64 (layA arrs k + mx (rd_T44 arrs k).f1 0)
def layAll (arrs : List S44) (k : Nat) : List Int := (List.range k).map (layA arrs)
theorem layAll_len (arrs : List S44) (k : Nat) : (layAll arrs k).length = k := by simp [layAll]
theorem layout_go (arrs : List S44) (hl : arrs.length ≤ 1000000) : ∀ n j fuel : Nat, j + n = arrs.length → n < fuel →
    codegen_Layout.l0 fuel (layAll arrs j) (layA arrs j) arrs (arrs.length : Int) (j : Int) = some (layAll arrs arrs.length, layA arrs arrs.length) := by
  intro n
  induction n with
  | zero =>
    intro j fuel hj hf
    obtain ⟨f, rfl⟩ : ∃ f, fuel = f + 1 := ⟨fuel - 1, by omega⟩
    have e : j = arrs.length := by omega
    subst e
    unfold codegen_Layout.l0
    rw [if_neg (by omega)]
  | succ n ih =>
    intro j fuel hj hf
    obtain ⟨f, rfl⟩ : ∃ f, fuel = f + 1 := ⟨fuel - 1, by omega⟩
    unfold codegen_Layout.l0
    rw [if_pos (by omega), if_pos (by omega), if_pos (by omega), if_pos (by rw [layAll_len]; omega), w64 (n := (j : Int) + 1) (by omega)]
    have h := ih (j + 1) f (by omega) (by omega)
    rw [show layAll arrs (j + 1) = layAll arrs j ++ [layA arrs j] from by simp [layAll, List.range_succ]] at h
    rw [show layA arrs (j + 1) = wrap64 (layA arrs j + mx (rd_T44 arrs (j : Int)).f1 0) from rfl] at h
    rw [show ((j + 1 : Nat) : Int) = (j : Int) + 1 from by omega] at h
    exact h
theorem layout_f (arrs : List S44) (hl : arrs.length ≤ 1000000) (K : Nat) (hK : arrs.length < K) : codegen_Layout.f K arrs = some (layAll arrs arrs.length, layA arrs arrs.length) := by
  have h := layout_go arrs hl arrs.length 0 K (by omega) hK
  exact h
end Go.Proofs.Ytadaopfcgpfiiaa
namespace Go.Proofs.Ytadaopfcgpfiiaa
open Go.RowKit Go.Proofs.YtadaopfcgpfiiaaW.PrintWords Go.Proofs.YtadaopfcgpfiiaaW.PrintLast Go.Proofs.YtadaopfcgpfiiaaW.PrintMore PCg
set_option linter.unusedVariables false
set_option linter.unusedSimpArgs false
def memA (acc : List S44) (nm : ByteArray) (v : Int) : Bool := acc.any (fun a => nm.toList == a.f0.toList && (v == a.f1))
theorem index_go (xs : List S44) (nm : ByteArray) (v : Int) (hl : xs.length ≤ 1000000) : ∀ n j fuel : Nat, j + n = xs.length → n < fuel →
    ∃ r, api_Array_64.l0 fuel xs (xs.length : Int) (j : Int) nm v = some r ∧ decide (r ≥ 0) = memA (xs.drop j) nm v := by
  intro n
  induction n with
  | zero =>
    intro j fuel hj hf
    obtain ⟨f, rfl⟩ : ∃ f, fuel = f + 1 := ⟨fuel - 1, by omega⟩
    refine ⟨-1, ?_, ?_⟩
    · unfold api_Array_64.l0; rw [if_neg (by omega)]
    · rw [List.drop_eq_nil_of_le (by omega)]; rfl
  | succ n ih =>
    intro j fuel hj hf
    obtain ⟨f, rfl⟩ : ∃ f, fuel = f + 1 := ⟨fuel - 1, by omega⟩
    have hd : xs.drop j = rd_T44 xs (j : Int) :: xs.drop (j + 1) := by
      rw [List.drop_eq_getElem_cons (by omega)]
      congr 1
      simp [rd_T44, show j < xs.length by omega]
    unfold api_Array_64.l0
    rw [if_pos (by omega), if_pos (by omega), if_pos (by omega)]
    by_cases he : (nm.toList == (rd_T44 xs (j : Int)).f0.toList && v == (rd_T44 xs (j : Int)).f1) = true
    · refine ⟨j, by rw [if_pos he], ?_⟩
      rw [hd, memA, List.any_cons, he, Bool.true_or]
      exact decide_eq_true (by omega)
    · obtain ⟨r, h1, h2⟩ := ih (j + 1) f (by omega) (by omega)
      refine ⟨r, ?_, ?_⟩
      · rw [if_neg he, w64 (n := (j : Int) + 1) (by omega)]
        exact h1
      · rw [hd, memA, List.any_cons, Bool.eq_false_iff.2 he, Bool.false_or]
        exact h2
theorem contains_f (xs : List S44) (nm : ByteArray) (v : Int) (hl : xs.length ≤ 1000000) (K : Nat) (hK : xs.length < K) : api_Array_45.f K xs nm v = some (memA xs nm v) := by
  obtain ⟨r, h1, h2⟩ := index_go xs nm v hl xs.length 0 K (by omega) hK
  unfold api_Array_45.f api_Array_64.f
  have h1' : api_Array_64.l0 K xs (xs.length : Int) 0 nm v = some r := h1
  rw [h1', Option.bind_some, h2]
  rfl
def isShr (op : Int) : Bool := op == 6 || op == 7 || op == 11 || op == 12
def mentI (acc : List S44) (i : S51) : List S44 := if isShr i.f0 = true then (if memA acc i.f5 1 = true then acc else acc ++ [⟨i.f5, 1⟩]) else acc
def mentB (acc : List S44) (b : S49) : List S44 := b.f0.foldl mentI acc
def mentL (blks : List S49) : List S44 := blks.foldl mentB []
theorem mentI_len (acc : List S44) (i : S51) : (mentI acc i).length ≤ acc.length + 1 := by
  unfold mentI; split
  · split
    · omega
    · simp
  · omega
theorem mentB_len (l : List S51) : ∀ acc : List S44, (l.foldl mentI acc).length ≤ acc.length + l.length := by
  induction l with
  | nil => intro acc; exact Nat.le_refl _
  | cons i l ih => intro acc; have h1 := ih (mentI acc i); have h2 := mentI_len acc i; simp only [List.foldl_cons, List.length_cons]; omega
theorem ment_j2 (f : Nat) (acc : List S44) (blks : List S49) (nb jb : Int) (ins : List S51) (ni j : Int) (c : Bool) (i : S51) (hc : c = isShr i.f0) (ha : acc.length < f) (hb : acc.length ≤ 1000000) (hj : 0 ≤ j) (hj1 : j ≤ 1000000) :
    codegen_mentioned.j2 (f + 1) acc blks nb jb ins ni j c i.f0 i.f1 i.f2 i.f3 i.f4 i.f5 = codegen_mentioned.l1 f (mentI acc i) blks nb jb ins ni (j + 1) := by
  unfold codegen_mentioned.j2
  rw [contains_f acc i.f5 1 hb f ha, w64 (n := j + 1) (by omega), Option.bind_some, hc, mentI]
  cases isShr i.f0 with
  | false => simp
  | true =>
    simp only [if_true]
    cases memA acc i.f5 1 with
    | false => simp only [Bool.false_eq_true, if_false]; rw [if_pos (by omega)]
    | true => simp
theorem ment_l1 (blks : List S49) (nb jb : Int) (ins : List S51) (hj0 : 0 ≤ jb) (hj1 : jb ≤ 1000000) (hl : ins.length ≤ 100000) : ∀ n j f acc, j + n = ins.length → acc.length + n ≤ 200000 → 200001 ≤ f →
    codegen_mentioned.l1 (f + 2 * n + 1) acc blks nb jb ins (ins.length : Int) (j : Int) = codegen_mentioned.l0 f ((ins.drop j).foldl mentI acc) blks nb (jb + 1) := by
  intro n
  induction n with
  | zero =>
    intro j f acc hj ha hf
    unfold codegen_mentioned.l1
    rw [if_neg (by omega), List.drop_eq_nil_of_le (by omega), w64 (n := jb + 1) (by omega)]
    rfl
  | succ n ih =>
    intro j f acc hj ha hf
    have hd : ins.drop j = rd_T51 ins (j : Int) :: ins.drop (j + 1) := by
      rw [List.drop_eq_getElem_cons (by omega)]
      congr 1
      simp [rd_T51, show j < ins.length by omega]
    have h1 := mentI_len acc (rd_T51 ins (j : Int))
    have h := ih (j + 1) f (mentI acc (rd_T51 ins (j : Int))) (by omega) (by omega) hf
    rw [hd, List.foldl_cons, ← h]
    rw [show f + 2 * (n + 1) + 1 = (f + 2 * n + 1 + 1) + 1 from by omega]
    conv => lhs; unfold codegen_mentioned.l1
    rw [if_pos (by omega), if_pos (by omega), if_pos (by omega)]
    generalize rd_T51 ins (j : Int) = i at *
    have key : ∀ c, c = isShr i.f0 → codegen_mentioned.j2 (f + 2 * n + 1 + 1) acc blks nb jb ins (ins.length : Int) (j : Int) c i.f0 i.f1 i.f2 i.f3 i.f4 i.f5 = codegen_mentioned.l1 (f + 2 * n + 1) (mentI acc i) blks nb jb ins (ins.length : Int) (((j + 1 : Nat)) : Int) := fun c hc =>
      ment_j2 _ acc blks nb jb ins _ _ c i hc (by omega) (by omega) (by omega) (by omega)
    split
    · rename_i h6; exact key _ (by rw [h6]; rfl)
    · split
      · rename_i h7; exact key _ (by rw [h7]; rfl)
      · split
        · rename_i h11; exact key _ (by rw [h11]; rfl)
        · rename_i h6 h7 h11; exact key _ (by simp [isShr, h6, h7, h11])
theorem ment_l0 (blks : List S49) (hl : blks.length ≤ 100000) (hb : ∀ b ∈ blks, b.f0.length ≤ 100000) : ∀ n j f acc, j + n = blks.length → acc.length + ((blks.drop j).map (fun b => b.f0.length)).sum ≤ 200000 → 200001 ≤ f →
    codegen_mentioned.l0 (f + ((blks.drop j).map (fun b => 2 * b.f0.length + 2)).sum + 1) acc blks (blks.length : Int) (j : Int) = some ((blks.drop j).foldl mentB acc) := by
  intro n
  induction n with
  | zero =>
    intro j f acc hj ha hf
    unfold codegen_mentioned.l0
    rw [if_neg (by omega), List.drop_eq_nil_of_le (by omega)]
    rfl
  | succ n ih =>
    intro j f acc hj ha hf
    have hd : blks.drop j = rd_T49 blks (j : Int) :: blks.drop (j + 1) := by
      rw [List.drop_eq_getElem_cons (by omega)]
      congr 1
      simp [rd_T49, show j < blks.length by omega]
    have hm : (rd_T49 blks (j : Int)).f0.length ≤ 100000 := hb _ (by
      simp only [rd_T49, List.getD_eq_getElem?_getD]
      rw [List.getElem?_eq_getElem (by omega)]
      simp)
    rw [hd] at ha ⊢
    simp only [List.map_cons, List.sum_cons, List.foldl_cons] at ha ⊢
    conv => lhs; unfold codegen_mentioned.l0
    rw [if_pos (by omega), if_pos (by omega), if_pos (by omega)]
    generalize rd_T49 blks (j : Int) = b at *
    have h1 := mentB_len b.f0 acc
    have h := ih (j + 1) f (mentB acc b) (by omega) (by unfold mentB; omega) hf
    have h2 := ment_l1 blks (blks.length : Int) (j : Int) b.f0 (by omega) (by omega) hm b.f0.length 0 (f + ((blks.drop (j + 1)).map (fun b => 2 * b.f0.length + 2)).sum + 1) acc (by omega) (by omega) (by omega)
    rw [show f + (2 * b.f0.length + 2 + ((blks.drop (j + 1)).map (fun b => 2 * b.f0.length + 2)).sum) = f + ((blks.drop (j + 1)).map (fun b => 2 * b.f0.length + 2)).sum + 1 + 2 * b.f0.length + 1 from by omega]
    refine h2.trans ?_
    exact h
end Go.Proofs.Ytadaopfcgpfiiaa
namespace Go.Proofs.Ytadaopfcgpfiiaa
open Go.RowKit Go.Proofs.YtadaopfcgpfiiaaW.PrintWords Go.Proofs.YtadaopfcgpfiiaaW.PrintLast Go.Proofs.YtadaopfcgpfiiaaW.PrintMore PCg
set_option linter.unusedVariables false
set_option linter.unusedSimpArgs false
theorem mentioned_f (nm : ByteArray) (regs : Int) (arrs : List S44) (blks : List S49) (hl : blks.length ≤ 100000) (hb : ∀ b ∈ blks, b.f0.length ≤ 100000) (hs : (blks.map (fun b => b.f0.length)).sum ≤ 200000) :
    codegen_mentioned.f (200001 + (blks.map (fun b => 2 * b.f0.length + 2)).sum + 1) nm regs arrs blks = some (mentL blks) := by
  have h := ment_l0 blks hl hb blks.length 0 200001 [] (by omega) (by simpa using hs) (by omega)
  rw [List.drop_zero] at h
  exact h
/-- what an instruction of a valid function gives -/
theorem insPre_of_ok {regs : Int} {arrs shared : List S44} {i : S51} (hr : 0 ≤ regs) (h : insOk regs arrs shared i = true) : insPre regs.toNat i := by
  have hn : ((regs.toNat : Nat) : Int) = regs := by omega
  unfold insOk xOk at h
  by_cases h16 : i.f0 = 1 ∨ i.f0 = 2 ∨ i.f0 = 3 ∨ i.f0 = 4 ∨ i.f0 = 5 ∨ i.f0 = 6 ∨ i.f0 = 7 ∨ i.f0 = 8 ∨ i.f0 = 9 ∨ i.f0 = 10 ∨ i.f0 = 11 ∨ i.f0 = 12 ∨ i.f0 = 13 ∨ i.f0 = 14 ∨ i.f0 = 15 ∨ i.f0 = 16
  · rcases h16 with e | e | e | e | e | e | e | e | e | e | e | e | e | e | e | e <;> rw [e] at h <;> simp [shp, regOk] at h <;> simp [insPre, defPre, regIn, e, hn] <;> omega
  · simp only [not_or] at h16
    simp [shp, h16] at h
/-- code is only added -/
def Ext (st st' : GSt) : Prop := ∃ l, st'.code = st.code ++ l
theorem Ext.refl (st : GSt) : Ext st st := ⟨[], by simp⟩
theorem Ext.trans {a b c : GSt} (h : Ext a b) (k : Ext b c) : Ext a c := by
  obtain ⟨l, h⟩ := h; obtain ⟨m, k⟩ := k
  exact ⟨l ++ m, by rw [k, h, List.append_assoc]⟩
theorem Ext.len {a b : GSt} (h : Ext a b) : a.code.length ≤ b.code.length := by
  obtain ⟨l, h⟩ := h
  rw [h, List.length_append]; omega
theorem ext_emit (st : GSt) (l : List S53) : Ext st (st.emit l) := ⟨l, rfl⟩
theorem ext_refer (st : GSt) (x : S53) (nm : ByteArray) : Ext st (st.refer x nm) := ⟨[x], rfl⟩
theorem ext_ite {c : Prop} [Decidable c] {st a b : GSt} (ha : Ext st a) (hb : Ext st b) : Ext st (if c then a else b) := by split; exact ha; exact hb
theorem genDef1_ext (sp : Int) (pl : List (Int × Int)) (m : ByteArray → Int) (st : GSt) (i : S51) : Ext st (genDef1 sp pl m st i) := by
  unfold genDef1
  repeat' refine ext_ite ?_ ?_
  all_goals first | exact ext_emit _ _ | exact (ext_emit _ _).trans (ext_refer _ _ _) | exact Ext.refl _
theorem genIns_ext (sp : Int) (pl : List (Int × Int)) (m : ByteArray → Int) (st : GSt) (i : S51) : Ext st (genIns sp pl m st i) := by
  unfold genIns
  repeat' refine ext_ite ?_ ?_
  all_goals first | exact ext_emit _ _ | exact (ext_emit _ _).trans (ext_refer _ _ _) | exact ext_refer _ _ _ | exact (genDef1_ext sp pl m st i).trans (ext_emit _ _)
theorem genCode_ext (sp : Int) (pl : List (Int × Int)) (m : ByteArray → Int) (l : List S51) : ∀ st : GSt, Ext st (genCode sp pl m st l) := by
  induction l with
  | nil => intro st; exact Ext.refl _
  | cons i l ih => intro st; exact (genIns_ext sp pl m st i).trans (ih _)
def PInv (nb : Int) (st : GSt) : Prop := (∀ p ∈ st.patches, (0 ≤ p.1 ∧ p.1 < st.code.length) ∧ 0 ≤ p.2 ∧ p.2 < nb) ∧ ∀ x ∈ st.starts, 0 ≤ x ∧ x ≤ st.code.length
theorem PInv.grow {nb : Int} {st st' : GSt} (h : PInv nb st) (hp : st'.patches = st.patches) (hs : st'.starts = st.starts) (he : Ext st st') : PInv nb st' := by
  have hl := he.len
  refine ⟨fun p hp' => ?_, fun x hx => ?_⟩
  · rw [hp] at hp'
    obtain ⟨⟨a, b⟩, c⟩ := h.1 p hp'
    exact ⟨⟨a, by omega⟩, c⟩
  · rw [hs] at hx
    obtain ⟨a, b⟩ := h.2 x hx
    exact ⟨a, by omega⟩
theorem PInv.emit {nb : Int} {st : GSt} (h : PInv nb st) (l : List S53) : PInv nb (st.emit l) := h.grow rfl rfl (ext_emit _ _)
theorem PInv.leap {nb : Int} {st : GSt} (h : PInv nb st) (x : S53) (b : Int) (h0 : 0 ≤ b) (h1 : b < nb) : PInv nb (st.leap x b) := by
  refine ⟨fun p hp => ?_, fun y hy => ?_⟩
  · simp only [GSt.leap, List.mem_append, List.mem_singleton] at hp
    simp only [GSt.leap, List.length_append, List.length_cons, List.length_nil]
    rcases hp with hp | rfl
    · obtain ⟨⟨a, b⟩, c⟩ := h.1 p hp
      exact ⟨⟨a, by omega⟩, c⟩
    · exact ⟨⟨by dsimp only; omega, by dsimp only; omega⟩, h0, h1⟩
  · obtain ⟨a, b⟩ := h.2 y hy
    simp only [GSt.leap, List.length_append, List.length_cons, List.length_nil]
    exact ⟨a, by omega⟩
theorem PInv.start {nb : Int} {st : GSt} (h : PInv nb st) : PInv nb st.start := by
  refine ⟨h.1, fun y hy => ?_⟩
  simp only [GSt.start, List.mem_append, List.mem_singleton] at hy
  rcases hy with hy | rfl
  · exact h.2 y hy
  · simp only [GSt.start]; omega
theorem PInv.blk {nb regs : Int} {arrs shared : List S44} {st : GSt} (h : PInv nb st) (sp : Int) (pl : List (Int × Int)) (m : ByteArray → Int) (k : Int) (b : S49) (hb : blkOk regs nb arrs shared b = true) : PInv nb (genBlk sp pl m st k b) := by
  obtain ⟨a1, a2, a3, a4⟩ := genCode_sz sp pl m b.f0 st.start
  have h2 := h.start.grow a4 a3 (genCode_ext sp pl m b.f0 st.start)
  simp only [blkOk, Bool.and_eq_true] at hb
  have he := hb.1
  unfold genBlk
  simp only
  generalize genCode sp pl m st.start b.f0 = st2 at *
  unfold endOk tgtOk at he
  split
  · exact h2.emit _
  · split
    · rename_i g3 g2
      rw [if_neg (by omega), if_pos g2] at he
      simp at he
      split
      · exact (h2.emit _).leap _ _ (by omega) (by omega)
      · exact ((h2.emit _).leap _ _ (by omega) (by omega)).leap _ _ (by omega) (by omega)
    · rename_i g3 g2
      split
      · exact h2
      · have g1 : b.f1 = 1 := by
          by_cases g1 : b.f1 = 1
          · exact g1
          · rw [if_neg g1, if_neg g2] at he
            simp at he
            exact absurd he.1.1.1 g3
        rw [if_pos g1] at he
        simp at he
        exact h2.leap _ _ (by omega) (by omega)
theorem allTo_get {n : Nat} {p : Int → Bool} (h : allTo n p = true) (k : Nat) (hk : k < n) : p k = true := by
  unfold allTo at h
  rw [List.all_eq_true] at h
  exact h k (List.mem_range.2 hk)
theorem irOk_facts {regs : Int} {arrs : List S44} {blks : List S49} {shared : List S44} (h : irOk regs arrs blks shared = true) :
    blks.length ≠ 0 ∧ 0 ≤ regs ∧ regs ≤ 10000 ∧ arrs.length ≤ 4 ∧ (∀ k : Nat, k < arrs.length → arrOkAt arrs shared k = true) ∧ (∀ k : Nat, k < shared.length → shOkAt shared k = true) ∧ ∀ k : Nat, k < blks.length → blkOk regs blks.length arrs shared (rd_T49 blks k) = true := by
  unfold irOk at h
  simp only [Bool.and_eq_true, decide_eq_true_eq] at h
  obtain ⟨⟨⟨⟨⟨⟨h1, h2⟩, h3⟩, h4⟩, h5⟩, h6⟩, h7⟩ := h
  exact ⟨h1, h2, h3, h4, fun k hk => allTo_get h5 k hk, fun k hk => allTo_get h6 k hk, fun k hk => allTo_get h7 k hk⟩
theorem genTo_inv {regs : Int} {arrs : List S44} {blks : List S49} {shared : List S44} (h : irOk regs arrs blks shared = true) (sp : Int) (pl : List (Int × Int)) (m : ByteArray → Int) (st : GSt) (hst : PInv blks.length st) (k : Nat) (hk : k ≤ blks.length) : PInv blks.length (genTo sp pl m blks st k) := by
  induction k with
  | zero => exact hst
  | succ k ih => exact (ih (by omega)).blk sp pl m k _ ((irOk_facts h).2.2.2.2.2.2 k (by omega))
theorem patchOk_task {regs : Int} {arrs : List S44} {blks : List S49} {shared : List S44} (h : irOk regs arrs blks shared = true) (addr : List Int) (size : Int) (places : List (Int × Int)) (slots : Int) (hs0 : 0 ≤ slots) (hs : slots ≤ 10000) (hb : blks.length ≤ 10000) (hsum : sumTo blks blks.length ≤ 50000) :
    patchOk (genTask arrs addr size blks places slots) := by
  have h0 : PInv blks.length (⟨genStores size slots.toNat, [], [], []⟩ : GSt) := ⟨fun p hp => by simp at hp, fun x hx => by simp at hx⟩
  have h1 := genTo_inv h size places (mapTo arrs addr arrs.length) _ h0 blks.length (Nat.le_refl _)
  obtain ⟨z1, z2, z3, z4⟩ := genTo_sz size places (mapTo arrs addr arrs.length) blks ⟨genStores size slots.toNat, [], [], []⟩ blks.length
  have hg : (genStores size slots.toNat).length ≤ 10000 := by simp only [genStores, List.length_map, List.length_range]; omega
  simp only [List.length_nil] at z1 z3
  refine ⟨fun p hp => ?_, fun x hx => ?_⟩
  · obtain ⟨a, b, c⟩ := h1.1 p hp
    refine ⟨a, b, ?_⟩
    have : (genTask arrs addr size blks places slots).starts.length = 0 + blks.length := z3
    omega
  · obtain ⟨a, b⟩ := h1.2 x hx
    exact ⟨a, by omega⟩
end Go.Proofs.Ytadaopfcgpfiiaa
namespace Go.Proofs.Ytadaopfcgpfiiaa
open Go.RowKit Go.Proofs.YtadaopfcgpfiiaaW.PrintWords Go.Proofs.YtadaopfcgpfiiaaW.PrintLast Go.Proofs.YtadaopfcgpfiiaaW.PrintMore PCg
set_option linter.unusedVariables false
set_option linter.unusedSimpArgs false
theorem sumTo_take (blks : List S49) (k : Nat) (hk : k ≤ blks.length) : sumTo blks k = ((blks.take k).map (fun b => b.f0.length)).sum := by
  induction k with
  | zero => rfl
  | succ k ih =>
    rw [sumTo, ih (by omega), List.take_add_one, List.getElem?_eq_getElem (by omega)]
    simp only [Option.toList_some, List.map_append, List.map_cons, List.map_nil, List.sum_append, List.sum_cons, List.sum_nil, rd_T49, List.getD_eq_getElem?_getD]
    rw [show ((k : Int)).toNat = k from by omega, List.getElem?_eq_getElem (by omega)]
    simp
theorem sumTo_all (blks : List S49) : sumTo blks blks.length = (blks.map (fun b => b.f0.length)).sum := by
  rw [sumTo_take blks _ (Nat.le_refl _), List.take_length]
theorem len_le_sum {blks : List S49} {b : S49} (h : b ∈ blks) : b.f0.length ≤ (blks.map (fun b => b.f0.length)).sum :=
by
  induction blks with
  | nil => simp at h
  | cons c l ih =>
    rw [List.map_cons, List.sum_cons]
    rcases List.mem_cons.1 h with rfl | h
    · omega
    · have := ih h; omega
theorem mentL_len (blks : List S49) : ∀ acc, (blks.foldl mentB acc).length ≤ acc.length + (blks.map (fun b => b.f0.length)).sum := by
  induction blks with
  | nil => intro acc; simp
  | cons b l ih =>
    intro acc
    have h1 := ih (mentB acc b)
    have h2 := mentB_len b.f0 acc
    simp only [List.foldl_cons, List.map_cons, List.sum_cons, mentB] at *
    omega
theorem layA_bound (arrs : List S44) (M : Int) (hM0 : 0 ≤ M) (hM : M ≤ 1000000000000) (h : ∀ k : Nat, k < arrs.length → (rd_T44 arrs k).f1 ≤ M) (k : Nat) (hk : k ≤ arrs.length) (hk2 : k ≤ 1000) : 0 ≤ layA arrs k ∧ layA arrs k ≤ k * M := by
  induction k with
  | zero => simp [layA]
  | succ k ih =>
    obtain ⟨h1, h2⟩ := ih (by omega) (by omega)
    have h3 := h k (by omega)
    have hm : 0 ≤ mx (rd_T44 arrs (k : Int)).f1 0 ∧ mx (rd_T44 arrs (k : Int)).f1 0 ≤ M := by unfold mx; split <;> omega
    have h5 : (k : Int) * M ≤ 1000 * M := Int.mul_le_mul_of_nonneg_right (by omega) hM0
    have h4 : ((k + 1 : Nat) : Int) * M = (k : Int) * M + M := by rw [Int.natCast_add, Int.add_mul]; simp
    rw [layA, w64 (by omega)]
    omega
theorem layAll_wf (arrs : List S44) (k : Nat) : ∀ x ∈ layAll arrs k, (Lit.int .i64 x).wf = true := by
  intro x hx
  simp only [layAll, List.mem_map] at hx
  obtain ⟨j, _, rfl⟩ := hx
  cases j with
  | zero => rfl
  | succ j => exact wrap64_wf _
theorem task_alloc (P : List (Int × Int) → Int → Prop) (nm : ByteArray) (regs : Int) (A : Option Addr) (c : Nat) (arrs : List S44) (A3 : Option Addr) (c3 : Nat) (blks : List S49) (w : World)
    (hr : Kd.C k44 w A arrs.length arrs) (hcp : arrs.length ≤ c) (hr3 : Kd.C k49 w A3 blks.length blks) (hcp3 : blks.length ≤ c3)
    (hal : arrs.length ≤ 1000000) (hm3 : blks.length ≤ 10000) (hsum : (blks.map (fun b => b.f0.length)).sum ≤ 50000) (hns : ∀ a ∈ arrs, a.f0.size ≤ maxLen) (hnb : ∀ b ∈ blks, ∀ i ∈ b.f0, i.f5.size ≤ maxLen)
    (hA : irOk regs arrs blks (mentL blks) = true → ∀ W, Below w.heap.size w W → Calls Try.prog 28 #[.agg #[.string nm, .int .i64 regs, .slice A arrs.length c, .slice A3 blks.length c3]] W
      fun e W' => ∃ places slots Ap cp, P places slots ∧ e = .returned (.tuple #[.agg #[.slice Ap places.length cp, .int .i64 slots], .int .i64 0]) ∧ Kd.C kTwo W' Ap places.length places ∧ AllocOk regs places slots ∧ Below W.heap.size W W') :
    Calls Try.prog 12 #[.agg #[.string nm, .int .i64 regs, .slice A arrs.length c, .slice A3 blks.length c3]] w
      fun e w' => (irOk regs arrs blks (mentL blks) = false ∧ e = .returned (.tuple #[zeroObj, .int .i64 3]) ∧ Below w.heap.size w w') ∨
        (irOk regs arrs blks (mentL blks) = true ∧ ∃ places slots, P places slots ∧ AllocOk regs places slots ∧ TaskOut nm arrs (layAll arrs arrs.length) (layA arrs arrs.length) blks places slots e w w') := by
  have hml : (mentL blks).length ≤ 50000 := by
    have := mentL_len blks []
    simp only [List.length_nil] at this
    unfold mentL
    omega
  refine task_any P (200001 + (blks.map (fun b => 2 * b.f0.length + 2)).sum + 1 + 1000000) nm regs A c arrs A3 c3 blks (mentL blks) (layAll arrs arrs.length) (layA arrs arrs.length) w hr hcp hr3 hcp3 hm3 (fun b hb => by have := len_le_sum hb; omega)
    ?_ (by omega) (layout_f arrs hal _ (by omega)) ?_ (layAll_len _ _) (fun h => by have := (irOk_facts h).2.2.2.1; omega) hns (layAll_wf _ _) ?_ (by rw [sumTo_all]; exact hsum) ?_ hA
  · have h := mentioned_f nm regs arrs blks (by omega) (fun b hb => by have := len_le_sum hb; omega) (by omega)
    have hmono : ∀ d, codegen_mentioned.f (200001 + (blks.map (fun b => 2 * b.f0.length + 2)).sum + 1 + d) nm regs arrs blks = some (mentL blks) := by
      intro d
      induction d with
      | zero => exact h
      | succ d ih => exact codegen_mentioned.mono nm regs arrs blks _ _ ih
    exact hmono 1000000
  · intro h
    obtain ⟨_, _, _, h4, h5, _⟩ := irOk_facts h
    have hb := layA_bound arrs 32 (by omega) (by omega) (fun k hk => by
      have := h5 k hk
      simp only [arrOkAt, Bool.and_eq_true, decide_eq_true_eq] at this
      exact this.1.1.2) arrs.length (Nat.le_refl _) (by omega)
    exact ⟨hb.1, by have : ((arrs.length : Nat) : Int) ≤ 4 := by omega
                    have := hb.2; omega⟩
  · intro h b hb
    obtain ⟨_, h2, _, _, _, _, h7⟩ := irOk_facts h
    obtain ⟨k, hk, rfl⟩ := List.getElem_of_mem hb
    have h8 := h7 k hk
    have e : rd_T49 blks (k : Int) = blks[k] := by simp [rd_T49, hk]
    rw [e] at h8
    simp only [blkOk, Bool.and_eq_true, List.all_eq_true] at h8
    refine ⟨fun i hi => ⟨insPre_of_ok h2 (h8.2 i hi), hnb _ hb i hi⟩, fun h9 => ?_⟩
    have h10 := h8.1
    unfold endOk at h10
    rw [if_neg (by omega), if_pos h9] at h10
    simp at h10
    exact ⟨h10.1.2, by omega⟩
  · intro h places slots hAO
    exact patchOk_task h _ _ places slots hAO.2.1 hAO.2.2.1 hm3 (by rw [sumTo_all]; exact hsum)
end Go.Proofs.Ytadaopfcgpfiiaa
namespace Go.Proofs.Ytadaopfcgpfiiaa
open Go.RowKit Go.Proofs.YtadaopfcgpfiiaaW.PrintWords Go.Proofs.YtadaopfcgpfiiaaW.PrintLast Go.Proofs.YtadaopfcgpfiiaaW.PrintMore PCg
set_option linter.unusedVariables false
set_option linter.unusedSimpArgs false
/-- the bits of a word -/
def bw (x : Int) : BitVec 64 := BitVec.ofInt 64 x
theorem u64_wrap (n : Nat) (h : n < 18446744073709551616) : IntKind.u64.wrap (n : Int) = n := by rw [IntKind.wrap_u64]; omega
theorem bw_toNat (v : BitVec 64) : bw (v.toNat : Int) = v := by
  apply BitVec.eq_of_toNat_eq
  simp [bw]
theorem bits_or64 (x y : Int) : Go.bits .or .u64 x y = ((bw x ||| bw y).toNat : Int) := by
  show IntKind.u64.wrap ((bw x ||| bw y).toNat : Int) = _
  exact u64_wrap _ (bw x ||| bw y).isLt
theorem bits_andNot64 (x y : Int) : Go.bits .andNot .u64 x y = ((bw x &&& ~~~ bw y).toNat : Int) := by
  show IntKind.u64.wrap ((bw x &&& ~~~ bw y).toNat : Int) = _
  exact u64_wrap _ (bw x &&& ~~~ bw y).isLt
theorem bw_or (x y : Int) : bw (Go.bits .or .u64 x y) = bw x ||| bw y := by rw [bits_or64, bw_toNat]
theorem bw_andNot (x y : Int) : bw (Go.bits .andNot .u64 x y) = bw x &&& ~~~ bw y := by rw [bits_andNot64, bw_toNat]
/-- a word lies under another -/
def bwLe (x y : Int) : Prop := bw x ||| bw y = bw y
theorem bwLe.refl (x : Int) : bwLe x x := by simp [bwLe]
theorem bwLe.trans {x y z : Int} (h : bwLe x y) (k : bwLe y z) : bwLe x z := by
  unfold bwLe at *
  rw [← k, ← BitVec.or_assoc, h]
theorem bwLe_or_left (x y : Int) : bwLe x (Go.bits .or .u64 x y) := by
  unfold bwLe
  rw [bw_or, ← BitVec.or_assoc, BitVec.or_self]
theorem bwLe_or {x y : Int} (h : bwLe x y) (z : Int) : bwLe (Go.bits .or .u64 x z) (Go.bits .or .u64 y z) := by
  unfold bwLe at *
  rw [bw_or, bw_or, ← h]
  ext i hi
  simp only [BitVec.getElem_or, BitVec.getElem_and, BitVec.getElem_not]
  cases (bw x)[i] <;> cases (bw y)[i] <;> cases (bw z)[i] <;> decide
theorem bwLe_andNot {x y : Int} (h : bwLe x y) (z : Int) : bwLe (Go.bits .andNot .u64 x z) (Go.bits .andNot .u64 y z) := by
  unfold bwLe at *
  rw [bw_andNot, bw_andNot, ← h]
  ext i hi
  simp only [BitVec.getElem_or, BitVec.getElem_and, BitVec.getElem_not]
  cases (bw x)[i] <;> cases (bw y)[i] <;> cases (bw z)[i] <;> decide
end Go.Proofs.Ytadaopfcgpfiiaa
namespace Go.Proofs.Ytadaopfcgpfiiaa
open Go.RowKit Go.Proofs.YtadaopfcgpfiiaaW.PrintWords Go.Proofs.YtadaopfcgpfiiaaW.PrintLast Go.Proofs.YtadaopfcgpfiiaaW.PrintMore PCg
set_option linter.unusedVariables false
set_option linter.unusedSimpArgs false
def setAdd (s : List Int) (r : Int) : List Int := s.set (r / 64).toNat (Go.bits .or .u64 (rd s (r / 64)) (shl .u64 1 (r % 64)))
def setDel (s : List Int) (r : Int) : List Int := s.set (r / 64).toNat (Go.bits .andNot .u64 (rd s (r / 64)) (shl .u64 1 (r % 64)))
theorem tdiv64 {r : Int} (h : 0 ≤ r) : Int.tdiv r 64 = r / 64 := Int.tdiv_eq_ediv_of_nonneg h
theorem tmod64 {r : Int} (h : 0 ≤ r) : Int.tmod r 64 = r % 64 := Int.tmod_eq_emod_of_nonneg h
theorem setAdd_f {s : List Int} {r : Int} (h0 : 0 ≤ r) (h1 : r < 64 * s.length) (h2 : s.length ≤ 1000000) : liveness_set_add.f s r = some (setAdd s r) := by
  unfold liveness_set_add.f
  rw [tdiv64 h0, tmod64 h0, w64 (n := r / 64) (by omega), if_pos (by omega), if_pos (by omega), if_pos (by omega)]
  rfl
theorem setDel_f {s : List Int} {r : Int} (h0 : 0 ≤ r) (h1 : r < 64 * s.length) (h2 : s.length ≤ 1000000) : liveness_set_remove.f s r = some (setDel s r) := by
  unfold liveness_set_remove.f
  rw [tdiv64 h0, tmod64 h0, w64 (n := r / 64) (by omega), if_pos (by omega), if_pos (by omega), if_pos (by omega)]
  rfl
theorem setAdd_len (s : List Int) (r : Int) : (setAdd s r).length = s.length := by simp [setAdd]
theorem setDel_len (s : List Int) (r : Int) : (setDel s r).length = s.length := by simp [setDel]
/-- a set lies under another -/
def sLe (s t : List Int) : Prop := s.length = t.length ∧ ∀ i : Nat, i < s.length → bwLe (s.getD i 0) (t.getD i 0)
theorem sLe.refl (s : List Int) : sLe s s := ⟨rfl, fun i _ => bwLe.refl _⟩
theorem sLe.trans {s t u : List Int} (h : sLe s t) (k : sLe t u) : sLe s u := ⟨h.1.trans k.1, fun i hi => (h.2 i hi).trans (k.2 i (by rw [← h.1]; exact hi))⟩
theorem sLe.set {s t : List Int} (h : sLe s t) (j : Nat) {u v : Int} (hv : bwLe u v) : sLe (s.set j u) (t.set j v) := by
  refine ⟨by simp [h.1], fun i hi => ?_⟩
  have hi' : i < s.length := by simpa using hi
  have hi2 : i < t.length := by rw [← h.1]; exact hi'
  have h2 := h.2 i hi'
  simp only [List.getD_eq_getElem?_getD, List.getElem?_set] at h2 ⊢
  by_cases e : j = i
  · subst e
    rw [if_pos rfl, if_pos rfl, if_pos hi', if_pos hi2]
    exact hv
  · rw [if_neg e, if_neg e]
    exact h2
theorem sLe.add {s t : List Int} (h : sLe s t) {r : Int} (h0 : 0 ≤ r) (h1 : r < 64 * s.length) : sLe (setAdd s r) (setAdd t r) :=
  h.set _ (bwLe_or (h.2 (r / 64).toNat (by omega)) _)
theorem sLe.del {s t : List Int} (h : sLe s t) {r : Int} (h0 : 0 ≤ r) (h1 : r < 64 * s.length) : sLe (setDel s r) (setDel t r) :=
  h.set _ (bwLe_andNot (h.2 (r / 64).toNat (by omega)) _)
end Go.Proofs.Ytadaopfcgpfiiaa
namespace Go.Proofs.Ytadaopfcgpfiiaa
open Go.RowKit Go.Proofs.YtadaopfcgpfiiaaW.PrintWords Go.Proofs.YtadaopfcgpfiiaaW.PrintLast Go.Proofs.YtadaopfcgpfiiaaW.PrintMore PCg
set_option linter.unusedVariables false
set_option linter.unusedSimpArgs false
/-- the registers that are live ahead of an instruction -/
def beforeL (i : S51) (s : List Int) : List Int := (usesL i).foldl setAdd (if (shp i.f0).d = true then setDel s i.f1 else s)
theorem adds_len (l : List Int) : ∀ s : List Int, (l.foldl setAdd s).length = s.length := by
  induction l with
  | nil => intro s; rfl
  | cons r l ih => intro s; rw [List.foldl_cons, ih, setAdd_len]
theorem beforeL_len (i : S51) (s : List Int) : (beforeL i s).length = s.length := by
  unfold beforeL
  rw [adds_len]
  split
  · exact setDel_len _ _
  · rfl
theorem adds_go (us : List Int) (hl : us.length ≤ 1000000) : ∀ n j fuel : Nat, ∀ s : List Int, j + n = us.length → n < fuel → s.length ≤ 1000000 → (∀ r ∈ us, 0 ≤ r ∧ r < 64 * s.length) →
    liveness_before.l0 fuel s us (us.length : Int) (j : Int) = some ((us.drop j).foldl setAdd s) := by
  intro n
  induction n with
  | zero =>
    intro j fuel s hj hf hs hr
    obtain ⟨f, rfl⟩ : ∃ f, fuel = f + 1 := ⟨fuel - 1, by omega⟩
    unfold liveness_before.l0
    rw [if_neg (by omega), List.drop_eq_nil_of_le (by omega)]
    rfl
  | succ n ih =>
    intro j fuel s hj hf hs hr
    obtain ⟨f, rfl⟩ : ∃ f, fuel = f + 1 := ⟨fuel - 1, by omega⟩
    have hjl : j < us.length := by omega
    have he : rd us (j : Int) = us[j] := by simp [rd, hjl]
    obtain ⟨h0, h1⟩ := hr _ (List.getElem_mem hjl)
    unfold liveness_before.l0
    rw [if_pos (by omega), if_pos (by omega), if_pos (by omega), he, setAdd_f h0 h1 hs, Option.bind_some, w64 (n := (j : Int) + 1) (by omega)]
    rw [List.drop_eq_getElem_cons hjl, List.foldl_cons]
    exact ih (j + 1) f (setAdd s us[j]) (by omega) (by omega) (by rw [setAdd_len]; exact hs) (fun r hr' => by rw [setAdd_len]; exact hr r hr')
theorem before_f (regs : Int) (i : S51) (s : List Int) (hi : insWf regs i) (hr : regs ≤ 64 * s.length) (hs : s.length ≤ 1000000) : liveness_before.f 4 i.f0 i.f1 i.f2 i.f3 i.f4 i.f5 s = some (beforeL i s) := by
  obtain ⟨_, _, hu⟩ := hi
  have hd : ir_Defines.f 4 i.f0 i.f1 i.f2 i.f3 i.f4 i.f5 = some (if (shp i.f0).d then i.f1 else 0, (shp i.f0).d) := ir_Defines.mono _ _ _ _ _ _ 3 _ (defines_f i)
  have hl := usesL_len i
  have key : ∀ t : List Int, t.length = s.length → liveness_before.j0 4 t i.f0 i.f1 i.f2 i.f3 i.f4 i.f5 = some ((usesL i).foldl setAdd t) := by
    intro t ht
    show (ir_Uses.f 3 i.f0 i.f1 i.f2 i.f3 i.f4 i.f5).bind (fun t180 => liveness_before.l0 3 t t180 (t180.length : Int) 0) = _
    rw [uses_f i, Option.bind_some]
    have h := adds_go (usesL i) (by omega) (usesL i).length 0 3 t (by omega) (by omega) (by omega) (fun r hr' => by
      have := hu r (List.mem_append.2 (.inl hr'))
      rw [ht]; omega)
    exact h
  unfold liveness_before.f beforeL
  rw [hd, Option.bind_some]
  cases hsd : (shp i.f0).d with
  | false => simp only [Bool.false_eq_true, if_false]; exact key s rfl
  | true =>
    have h1 := hu i.f1 (List.mem_append.2 (.inr (by simp [defL, hsd])))
    simp only [if_true]
    rw [setDel_f h1.1 (by omega) hs, Option.bind_some]
    exact key _ (setDel_len _ _)
theorem adds_mono (l : List Int) : ∀ s t : List Int, sLe s t → (∀ r ∈ l, 0 ≤ r ∧ r < 64 * s.length) → sLe (l.foldl setAdd s) (l.foldl setAdd t) := by
  induction l with
  | nil => intro s t h _; exact h
  | cons r l ih =>
    intro s t h hr
    obtain ⟨h0, h1⟩ := hr r (List.mem_cons_self ..)
    exact ih _ _ (h.add h0 h1) (fun q hq => by rw [setAdd_len]; exact hr q (List.mem_cons_of_mem _ hq))
theorem beforeL_mono {regs : Int} {i : S51} {s t : List Int} (hi : insWf regs i) (hr : regs ≤ 64 * s.length) (h : sLe s t) : sLe (beforeL i s) (beforeL i t) := by
  obtain ⟨_, _, hu⟩ := hi
  unfold beforeL
  cases hsd : (shp i.f0).d with
  | false =>
    simp only [Bool.false_eq_true, if_false]
    exact adds_mono _ _ _ h (fun r hr' => by have := hu r (List.mem_append.2 (.inl hr')); omega)
  | true =>
    have h1 := hu i.f1 (List.mem_append.2 (.inr (by simp [defL, hsd])))
    simp only [if_true]
    exact adds_mono _ _ _ (h.del h1.1 (by omega)) (fun r hr' => by rw [setDel_len]; have := hu r (List.mem_append.2 (.inl hr')); omega)
end Go.Proofs.Ytadaopfcgpfiiaa
namespace Go.Proofs.Ytadaopfcgpfiiaa
open Go.RowKit Go.Proofs.YtadaopfcgpfiiaaW.PrintWords Go.Proofs.YtadaopfcgpfiiaaW.PrintLast Go.Proofs.YtadaopfcgpfiiaaW.PrintMore PCg
set_option linter.unusedVariables false
set_option linter.unusedSimpArgs false
def joinTo (s t : List Int) : Nat → List Int
  | 0 => s
  | k + 1 => (joinTo s t k).set k (Go.bits .or .u64 (rd (joinTo s t k) k) (rd t k))
def joinL (s t : List Int) : List Int := joinTo s t s.length
theorem joinTo_len (s t : List Int) (k : Nat) : (joinTo s t k).length = s.length := by
  induction k with
  | zero => rfl
  | succ k ih => simp [joinTo, ih]
theorem joinL_len (s t : List Int) : (joinL s t).length = s.length := joinTo_len s t _
theorem join_go (s t : List Int) (hl : s.length ≤ 1000000) (ht : t.length = s.length) : ∀ n j fuel : Nat, j + n = s.length → n < fuel →
    liveness_set_join.l0 fuel (joinTo s t j) t (s.length : Int) (j : Int) = some (joinL s t) := by
  intro n
  induction n with
  | zero =>
    intro j fuel hj hf
    obtain ⟨f, rfl⟩ : ∃ f, fuel = f + 1 := ⟨fuel - 1, by omega⟩
    unfold liveness_set_join.l0
    rw [if_neg (by omega), joinL, show j = s.length by omega]
  | succ n ih =>
    intro j fuel hj hf
    obtain ⟨f, rfl⟩ : ∃ f, fuel = f + 1 := ⟨fuel - 1, by omega⟩
    unfold liveness_set_join.l0
    rw [if_pos (by omega), if_pos (by omega), if_pos (by rw [joinTo_len]; omega), if_pos (by omega), w64 (n := (j : Int) + 1) (by omega)]
    exact ih (j + 1) f (by omega) (by omega)
theorem join_f (s t : List Int) (hl : s.length ≤ 1000000) (ht : t.length = s.length) (K : Nat) (hK : s.length < K) : liveness_set_join.f K s t = some (joinL s t) :=
  join_go s t hl ht s.length 0 K (by omega) hK
theorem joinTo_le (s t : List Int) (k : Nat) : sLe s (joinTo s t k) := by
  induction k with
  | zero => exact sLe.refl _
  | succ k ih =>
    refine ih.trans ⟨by simp [joinTo], fun i hi => ?_⟩
    simp only [joinTo, List.getD_eq_getElem?_getD, List.getElem?_set]
    by_cases e : k = i
    · subst e
      rw [if_pos rfl, if_pos hi]
      have : rd (joinTo s t k) (k : Int) = (joinTo s t k)[k]?.getD 0 := by simp [rd]
      rw [this]
      exact bwLe_or_left _ _
    · rw [if_neg e]
      exact bwLe.refl _
theorem joinL_le (s t : List Int) : sLe s (joinL s t) := joinTo_le s t _
end Go.Proofs.Ytadaopfcgpfiiaa
namespace Go.Proofs.Ytadaopfcgpfiiaa
open Go.RowKit Go.Proofs.YtadaopfcgpfiiaaW.PrintWords Go.Proofs.YtadaopfcgpfiiaaW.PrintLast Go.Proofs.YtadaopfcgpfiiaaW.PrintMore PCg
set_option linter.unusedVariables false
set_option linter.unusedSimpArgs false
def CanW (x : Int) : Prop := ∃ v : BitVec 64, x = (v.toNat : Int)
def Canon (s : List Int) : Prop := ∀ x ∈ s, CanW x
theorem canW_bw {x : Int} (h : CanW x) : ((bw x).toNat : Int) = x := by
  obtain ⟨v, rfl⟩ := h
  rw [bw_toNat]
theorem canW_or (x y : Int) : CanW (Go.bits .or .u64 x y) := ⟨_, bits_or64 x y⟩
theorem canW_andNot (x y : Int) : CanW (Go.bits .andNot .u64 x y) := ⟨_, bits_andNot64 x y⟩
theorem Canon.set {s : List Int} (h : Canon s) (j : Nat) {x : Int} (hx : CanW x) : Canon (s.set j x) := fun y hy => by
  rcases List.mem_or_eq_of_mem_set hy with hy | rfl
  · exact h y hy
  · exact hx
theorem Canon.add {s : List Int} (h : Canon s) (r : Int) : Canon (setAdd s r) := h.set _ (canW_or _ _)
theorem Canon.del {s : List Int} (h : Canon s) (r : Int) : Canon (setDel s r) := h.set _ (canW_andNot _ _)
theorem Canon.adds (l : List Int) : ∀ s : List Int, Canon s → Canon (l.foldl setAdd s) := by
  induction l with
  | nil => intro s h; exact h
  | cons r l ih => intro s h; exact ih _ (h.add r)
theorem Canon.before {s : List Int} (h : Canon s) (i : S51) : Canon (beforeL i s) := by
  unfold beforeL
  refine Canon.adds _ _ ?_
  split
  · exact h.del _
  · exact h
theorem Canon.joinTo {s : List Int} (h : Canon s) (t : List Int) (k : Nat) : Canon (joinTo s t k) := by
  induction k with
  | zero => exact h
  | succ k ih => exact ih.set _ (canW_or _ _)
theorem Canon.join {s : List Int} (h : Canon s) (t : List Int) : Canon (joinL s t) := h.joinTo t _
theorem sLe_cons {x y : Int} {s t : List Int} (h : sLe (x :: s) (y :: t)) : bwLe x y ∧ sLe s t := by
  refine ⟨h.2 0 (by simp), by have := h.1; simpa using this, fun i hi => ?_⟩
  have := h.2 (i + 1) (by simpa using hi)
  simpa using this
end Go.Proofs.Ytadaopfcgpfiiaa
namespace Go.Proofs.Ytadaopfcgpfiiaa
open Go.RowKit Go.Proofs.YtadaopfcgpfiiaaW.PrintWords Go.Proofs.YtadaopfcgpfiiaaW.PrintLast Go.Proofs.YtadaopfcgpfiiaaW.PrintMore PCg
set_option linter.unusedVariables false
set_option linter.unusedSimpArgs false
def atEndL (b : S49) (s : List Int) : List Int := if b.f1 = 2 then setAdd s b.f2 else s
set_option maxRecDepth 100000 in
set_option maxHeartbeats 1000000 in
theorem atEnd_any (A5 : Option Addr) (n5 c5 : Nat) (b : S49) (A : Option Addr) (c : Nat) (s : List Int) (w : World)
    (hr : Kd.C (Kd.int .u64) w A s.length s) (hcp : s.length ≤ c) (hs : s.length ≤ 1000000) (hx : b.f1 = 2 → 0 ≤ b.f2 ∧ b.f2 < 64 * s.length) :
    Calls Try.prog 93 #[.agg #[.slice A5 n5 c5, .int .u8 b.f1, .int .i64 b.f2, .int .i64 b.f3, .int .i64 b.f4], .slice A s.length c] w
      fun e w' => ∃ v, e = .returned v ∧ Kd.R (Kd.int .u64) 191 w' w.heap.size (fun _ => True) v (atEndL b s) ∧ Below w.heap.size w w' := by
  have HR := Aside0.mk hr; have HX := Aside0.mk hx
  clear hr hx
  have hu := Try.underlying49
  have hB1 := below_alloc (Below.refl w.heap.size w) (.cells #[.slice A5 n5 c5, .int .u8 b.f1, .int .i64 b.f2, .int .i64 b.f3, .int .i64 b.f4] 49)
  have hb1 := blk_new w (.cells #[.slice A5 n5 c5, .int .u8 b.f1, .int .i64 b.f2, .int .i64 b.f3, .int .i64 b.f4] 49)
  have HB1 := Aside0.mk hB1; have HBB := Aside0.mk hb1
  clear hB1 hb1
  go_enter Try.func93, Try.ntmps93
  go_wp2_with fail
  refine (cloneSet_any A c s _ (Kd.C_below HR.out HB1.out) hcp (by omega)).mono ?_
  rintro e w2 ⟨v, rfl, hR2, hb2⟩
  have hB2 := blk_below HBB.out hb2
  obtain ⟨b0, b1, b2, b3, b4⟩ := blk5 hB2
  have hl2 := blk_lt hB2
  have HW2 := Aside0.mk (below_step HB1.out hb2)
  have HR2 := Aside0.mk (Kd.R_lower hR2 (base' := w.heap.size) (by simp))
  clear hB2 hR2 hb2
  obtain ⟨A2, c2, hv⟩ := Kd.R_slice HR2.out
  subst hv
  by_cases g2 : b.f1 = 2
  · have e2 : (b.f1 == 2) = true := beq_iff_eq.2 g2
    obtain ⟨h0, h1⟩ := HX.out g2
    go_wp2_with (first
      | (go_at_call 71
         refine (liveness_set_add.calls (fun _ => True) _ s b.f2 _ w _ HW2.out HR2.out (setAdd_f h0 h1 hs)).mono ?_
         rintro e w3 ⟨rfl, hR3, hB3, _⟩
         have HR3 := Aside0.mk hR3; have HB3 := Aside0.mk hB3; clear hR3 hB3))
    go_ret
    refine ⟨_, rfl, ?_, HB3.out⟩
    rw [atEndL, if_pos g2]
    exact Kd.R_mono HR3.out (fun _ _ => trivial)
  · have e2 : (b.f1 == 2) = false := beq_eq_false_iff_ne.2 g2
    go_wp2_with fail
    go_ret
    refine ⟨_, rfl, ?_, HW2.out⟩
    rw [atEndL, if_neg g2]
    exact HR2.out
end Go.Proofs.Ytadaopfcgpfiiaa
namespace Go.Proofs.Ytadaopfcgpfiiaa
open Go.RowKit Go.Proofs.YtadaopfcgpfiiaaW.PrintWords Go.Proofs.YtadaopfcgpfiiaaW.PrintLast Go.Proofs.YtadaopfcgpfiiaaW.PrintMore PCg
set_option linter.unusedVariables false
set_option linter.unusedSimpArgs false
def bitOf (s : List Int) (r : Int) : Bool := (bw (rd s (r / 64))).getLsbD (r % 64).toNat
theorem shl_one {m : Int} (h0 : 0 ≤ m) (h1 : m < 64) : shl .u64 1 m = ((2 ^ m.toNat : Nat) : Int) := by
  unfold shl
  have hb : IntKind.u64.bits = 64 := rfl
  rw [hb, Nat.min_eq_left (by omega), Int.one_mul]
  have h2 : (2 ^ m.toNat : Nat) < 18446744073709551616 := by
    have : (2 : Nat) ^ m.toNat < 2 ^ 64 := Nat.pow_lt_pow_right (by omega) (by omega)
    simpa using this
  have e : ((2 : Int) ^ m.toNat) = ((2 ^ m.toNat : Nat) : Int) := by simp
  rw [e, u64_wrap _ h2]
theorem bit_one {m : Int} (h0 : 0 ≤ m) (h1 : m < 64) (i : Nat) : (bw (shl .u64 1 m)).getLsbD i = decide (m.toNat = i) := by
  rw [shl_one h0 h1]
  have : bw ((2 ^ m.toNat : Nat) : Int) = BitVec.twoPow 64 m.toNat := by
    unfold bw
    rw [BitVec.ofInt_natCast]
    apply BitVec.eq_of_toNat_eq
    rw [BitVec.toNat_ofNat, BitVec.toNat_twoPow]
  rw [this, BitVec.getLsbD_twoPow]
  by_cases e : m.toNat = i
  · subst e; simp; omega
  · simp [e]
theorem bit_add {s : List Int} {q r : Int} (hq : 0 ≤ q) (hr : 0 ≤ r) (h : bitOf (setAdd s q) r = true) : bitOf s r = true ∨ r = q := by
  unfold bitOf setAdd rd at *
  simp only [List.getD_eq_getElem?_getD, List.getElem?_set] at h ⊢
  by_cases e : (q / 64).toNat = (r / 64).toNat
  · rw [if_pos e] at h
    split at h
    · simp only [Option.getD_some] at h
      rw [bw_or, BitVec.getLsbD_or, Bool.or_eq_true] at h
      rcases h with h | h
      · left
        rw [← e]
        exact h
      · right
        rw [bit_one (by omega) (by omega)] at h
        simp at h
        omega
    · simp [bw] at h
  · rw [if_neg e] at h
    exact .inl h
theorem bit_del {s : List Int} {q r : Int} (h : bitOf (setDel s q) r = true) : bitOf s r = true := by
  unfold bitOf setDel rd at *
  simp only [List.getD_eq_getElem?_getD, List.getElem?_set] at h ⊢
  by_cases e : (q / 64).toNat = (r / 64).toNat
  · rw [if_pos e] at h
    split at h
    · simp only [Option.getD_some] at h
      rw [bw_andNot, BitVec.getLsbD_and, Bool.and_eq_true] at h
      rw [← e]
      exact h.1
    · simp [bw] at h
  · rw [if_neg e] at h
    exact h
theorem bit_joinTo {s t : List Int} {r : Int} (k : Nat) (h : bitOf (joinTo s t k) r = true) : bitOf s r = true ∨ bitOf t r = true := by
  induction k with
  | zero => exact .inl h
  | succ k ih =>
    unfold bitOf joinTo at h
    rw [show rd ((joinTo s t k).set k (Go.bits .or .u64 (rd (joinTo s t k) k) (rd t k))) (r / 64) = ((joinTo s t k).set k (Go.bits .or .u64 (rd (joinTo s t k) k) (rd t k))).getD (r / 64).toNat 0 from rfl] at h
    simp only [List.getD_eq_getElem?_getD, List.getElem?_set] at h
    by_cases e : k = (r / 64).toNat
    · rw [if_pos e] at h
      split at h
      · simp only [Option.getD_some] at h
        rw [bw_or, BitVec.getLsbD_or, Bool.or_eq_true] at h
        rcases h with h | h
        · apply ih
          unfold bitOf rd
          rw [← e]
          simpa [rd] using h
        · right
          unfold bitOf rd
          rw [← e]
          simpa [rd] using h
      · simp [bw] at h
    · rw [if_neg e] at h
      apply ih
      unfold bitOf rd
      rw [List.getD_eq_getElem?_getD]
      exact h
/-- every member is below n -/
def Bnd (n : Int) (s : List Int) : Prop := ∀ r : Int, 0 ≤ r → bitOf s r = true → r < n
theorem Bnd.zeros (n : Int) (L : Nat) : Bnd n (List.replicate L 0) := by
  intro r hr h
  unfold bitOf rd at h
  rw [List.getD_eq_getElem?_getD, List.getElem?_replicate] at h
  split at h <;> simp [bw] at h
theorem Bnd.add {n : Int} {s : List Int} (h : Bnd n s) {q : Int} (h0 : 0 ≤ q) (h1 : q < n) : Bnd n (setAdd s q) := fun r hr hb => by
  rcases bit_add h0 hr hb with h2 | rfl
  · exact h r hr h2
  · exact h1
theorem Bnd.del {n : Int} {s : List Int} (h : Bnd n s) (q : Int) : Bnd n (setDel s q) := fun r hr hb => h r hr (bit_del hb)
theorem Bnd.join {n : Int} {s t : List Int} (h : Bnd n s) (h' : Bnd n t) : Bnd n (joinL s t) := fun r hr hb => by
  rcases bit_joinTo _ hb with h2 | h2
  · exact h r hr h2
  · exact h' r hr h2
theorem Bnd.adds {n : Int} (l : List Int) (hl : ∀ r ∈ l, 0 ≤ r ∧ r < n) : ∀ s, Bnd n s → Bnd n (l.foldl setAdd s) := by
  induction l with
  | nil => intro s h; exact h
  | cons r l ih =>
    intro s h
    obtain ⟨h0, h1⟩ := hl r (List.mem_cons_self ..)
    exact ih (fun q hq => hl q (List.mem_cons_of_mem _ hq)) _ (h.add h0 h1)
theorem Bnd.before {n : Int} {i : S51} {s : List Int} (hi : insWf n i) (h : Bnd n s) : Bnd n (beforeL i s) := by
  obtain ⟨_, _, hu⟩ := hi
  unfold beforeL
  refine Bnd.adds _ (fun r hr => hu r (List.mem_append_left _ hr)) _ ?_
  split
  · exact h.del _
  · exact h
theorem has_f {s : List Int} {r : Int} (hc : Canon s) (h0 : 0 ≤ r) (h1 : r < 64 * s.length) (h2 : s.length ≤ 1000000) : liveness_set_has.f s r = some (bitOf s r) := by
  unfold liveness_set_has.f
  rw [tdiv64 h0, tmod64 h0, w64 (n := r / 64) (by omega), if_pos (by omega), if_pos (by omega), if_pos (by omega)]
  congr 1
  have hcw : CanW (rd s (r / 64)) := by
    have : rd s (r / 64) ∈ s := by
      unfold rd
      rw [List.getD_eq_getElem?_getD, List.getElem?_eq_getElem (by omega)]
      simp
    exact hc _ this
  obtain ⟨v, hv⟩ := hcw
  unfold bitOf
  rw [hv, bw_toNat]
  have hm : (r % 64).toNat < 64 := by omega
  have hsh : shr .u64 (v.toNat : Int) (r % 64) = ((v >>> (r % 64).toNat).toNat : Int) := by
    unfold shr
    have hb : IntKind.u64.bits = 64 := rfl
    rw [hb, Nat.min_eq_left (by omega), BitVec.toNat_ushiftRight, Nat.shiftRight_eq_div_pow]
    simp
  rw [hsh]
  have hand : Go.bits .and .u64 ((v >>> (r % 64).toNat).toNat : Int) 1 = (((v >>> (r % 64).toNat) &&& 1#64).toNat : Int) := by
    show IntKind.u64.wrap ((bw ((v >>> (r % 64).toNat).toNat : Int) &&& bw 1).toNat : Int) = _
    rw [u64_wrap _ (bw ((v >>> (r % 64).toNat).toNat : Int) &&& bw 1).isLt, bw_toNat]
    rfl
  rw [hand]
  have hk : ((v >>> (r % 64).toNat) &&& 1#64) = if v.getLsbD (r % 64).toNat then 1#64 else 0#64 := by
    rw [BitVec.and_one_eq_setWidth_ofBool_getLsbD]
    rw [BitVec.getLsbD_ushiftRight, Nat.add_zero]
    cases v.getLsbD (r % 64).toNat <;> rfl
  rw [hk]
  cases v.getLsbD (r % 64).toNat <;> rfl
end Go.Proofs.Ytadaopfcgpfiiaa
namespace Go.Proofs.Ytadaopfcgpfiiaa
open Go.RowKit Go.Proofs.YtadaopfcgpfiiaaW.PrintWords Go.Proofs.YtadaopfcgpfiiaaW.PrintLast Go.Proofs.YtadaopfcgpfiiaaW.PrintMore PCg
set_option linter.unusedVariables false
set_option linter.unusedSimpArgs false
/-- the registers live at the beginning of a block, out of those at its end -/
def backL (l : List S51) (s : List Int) : List Int := l.foldl (fun s i => beforeL i s) s
def liveB (b : S49) (s : List Int) : List Int := backL b.f0.reverse (atEndL b s)
theorem backL_len (l : List S51) : ∀ s, (backL l s).length = s.length := by
  induction l with
  | nil => intro s; rfl
  | cons i l ih => intro s; rw [backL, List.foldl_cons]; exact (ih _).trans (beforeL_len i s)
theorem atEndL_len (b : S49) (s : List Int) : (atEndL b s).length = s.length := by
  unfold atEndL; split
  · exact setAdd_len _ _
  · rfl
theorem liveB_len (b : S49) (s : List Int) : (liveB b s).length = s.length := (backL_len _ _).trans (atEndL_len b s)
theorem backL_mono {regs : Int} (l : List S51) : ∀ s t : List Int, (∀ i ∈ l, insWf regs i) → regs ≤ 64 * s.length → sLe s t → sLe (backL l s) (backL l t) := by
  induction l with
  | nil => intro s t _ _ h; exact h
  | cons i l ih =>
    intro s t hw hr h
    exact ih _ _ (fun q hq => hw q (List.mem_cons_of_mem _ hq)) (by rw [beforeL_len]; exact hr) (beforeL_mono (hw i (List.mem_cons_self ..)) hr h)
theorem liveB_mono {regs nb : Int} {b : S49} {s t : List Int} (hb : BlkWf regs nb b) (hr : regs ≤ 64 * s.length) (h : sLe s t) : sLe (liveB b s) (liveB b t) := by
  refine backL_mono _ _ _ (fun i hi => hb.ins i (List.mem_reverse.1 hi)) (by rw [atEndL_len]; exact hr) ?_
  unfold atEndL
  by_cases e : b.f1 = 2
  · rw [if_pos e, if_pos e]
    have := hb.x e
    exact h.add this.1 (by omega)
  · rw [if_neg e, if_neg e]; exact h
theorem backL_canon (l : List S51) : ∀ s, Canon s → Canon (backL l s) := by
  induction l with
  | nil => intro s h; exact h
  | cons i l ih => intro s h; exact ih _ (h.before i)
theorem atEndL_canon (b : S49) {s : List Int} (h : Canon s) : Canon (atEndL b s) := by
  unfold atEndL; split
  · exact h.add _
  · exact h
theorem liveB_canon (b : S49) {s : List Int} (h : Canon s) : Canon (liveB b s) := backL_canon _ _ (atEndL_canon b h)
theorem backL_bnd {n : Int} (l : List S51) : ∀ s, (∀ i ∈ l, insWf n i) → Bnd n s → Bnd n (backL l s) := by
  induction l with
  | nil => intro s _ h; exact h
  | cons i l ih => intro s hw h; exact ih _ (fun q hq => hw q (List.mem_cons_of_mem _ hq)) (h.before (hw i (List.mem_cons_self ..)))
theorem atEndL_bnd {regs nb : Int} {b : S49} {s : List Int} (hb : BlkWf regs nb b) (h : Bnd regs s) : Bnd regs (atEndL b s) := by
  unfold atEndL
  by_cases e : b.f1 = 2
  · rw [if_pos e]; exact h.add (hb.x e).1 (hb.x e).2
  · rw [if_neg e]; exact h
theorem liveB_bnd {regs nb : Int} {b : S49} {s : List Int} (hb : BlkWf regs nb b) (h : Bnd regs s) : Bnd regs (liveB b s) :=
  backL_bnd _ _ (fun i hi => hb.ins i (List.mem_reverse.1 hi)) (atEndL_bnd hb h)
theorem newSet_f {regs : Int} (h0 : 0 ≤ regs) (h1 : regs ≤ 10000) : liveness_newSet.f regs = some (List.replicate ((regs + 63) / 64).toNat 0) := by
  unfold liveness_newSet.f
  rw [w64 (n := regs + 63) (by omega), tdiv64 (by omega), w64 (n := (regs + 63) / 64) (by omega), if_pos (by omega), if_pos (by omega)]
theorem canon_zeros (L : Nat) : Canon (List.replicate L 0) := fun x hx => ⟨0#64, by have := List.eq_of_mem_replicate hx; rw [this]; rfl⟩
/-- the members below k, in order -/
def listTo (s : List Int) (k : Nat) : List Int := ((List.range k).filter fun r : Nat => bitOf s (r : Int)).map fun r : Nat => (r : Int)
theorem listTo_succ (s : List Int) (k : Nat) : listTo s (k + 1) = if bitOf s k = true then listTo s k ++ [(k : Int)] else listTo s k := by
  unfold listTo
  rw [List.range_succ, List.filter_append, List.map_append]
  by_cases h : bitOf s (k : Int) = true
  · rw [if_pos h]; simp [List.filter_cons, h]
  · rw [if_neg h]; simp [List.filter_cons, h]
theorem listTo_len (s : List Int) (k : Nat) : (listTo s k).length ≤ k := by
  unfold listTo
  rw [List.length_map]
  refine Nat.le_trans (List.length_filter_le _ _) ?_
  simp
theorem listTo_mem {s : List Int} {k : Nat} {x : Int} (h : x ∈ listTo s k) : 0 ≤ x ∧ x < k ∧ bitOf s x = true := by
  unfold listTo at h
  obtain ⟨r, hr, rfl⟩ := List.mem_map.1 h
  rw [List.mem_filter, List.mem_range] at hr
  exact ⟨by omega, by omega, hr.2⟩
theorem list_go {s : List Int} (hc : Canon s) (hl : s.length ≤ 1000000) : ∀ n j fuel : Nat, j + n = 64 * s.length → n < fuel →
    liveness_set_list.l0 fuel s (listTo s j) (64 * (s.length : Int)) (j : Int) = some (listTo s (64 * s.length)) := by
  intro n
  induction n with
  | zero =>
    intro j fuel hj hf
    obtain ⟨f, rfl⟩ : ∃ f, fuel = f + 1 := ⟨fuel - 1, by omega⟩
    unfold liveness_set_list.l0
    rw [if_neg (by omega), show j = 64 * s.length by omega]
  | succ n ih =>
    intro j fuel hj hf
    obtain ⟨f, rfl⟩ : ∃ f, fuel = f + 1 := ⟨fuel - 1, by omega⟩
    unfold liveness_set_list.l0
    rw [if_pos (by omega), has_f hc (by omega) (by omega) hl, Option.bind_some, w64 (n := (j : Int) + 1) (by omega)]
    have h := ih (j + 1) f (by omega) (by omega)
    rw [listTo_succ] at h
    have hll := listTo_len s j
    by_cases hb : bitOf s (j : Int) = true
    · rw [if_pos hb] at h
      rw [if_pos hb, if_pos (by omega)]
      exact h
    · rw [if_neg hb] at h
      rw [if_neg hb]
      exact h
theorem list_f {s : List Int} (hc : Canon s) (hl : s.length ≤ 1000000) : liveness_set_list.f (64 * s.length + 1) s = some (listTo s (64 * s.length)) := by
  unfold liveness_set_list.f
  rw [w64 (n := 64 * (s.length : Int)) (by omega)]
  exact list_go hc hl (64 * s.length) 0 _ (by omega) (by omega)
theorem equal_go (s t : List Int) (hl : s.length ≤ 1000000) (ht : t.length = s.length) : ∀ n j fuel : Nat, j + n = s.length → n < fuel →
    liveness_set_uint64_118.l0 fuel s t (s.length : Int) (j : Int) = some (decide (s.drop j = t.drop j)) := by
  intro n
  induction n with
  | zero =>
    intro j fuel hj hf
    obtain ⟨f, rfl⟩ : ∃ f, fuel = f + 1 := ⟨fuel - 1, by omega⟩
    unfold liveness_set_uint64_118.l0
    rw [if_neg (by omega), List.drop_eq_nil_of_le (by omega), List.drop_eq_nil_of_le (by omega)]
    simp
  | succ n ih =>
    intro j fuel hj hf
    obtain ⟨f, rfl⟩ : ∃ f, fuel = f + 1 := ⟨fuel - 1, by omega⟩
    unfold liveness_set_uint64_118.l0
    rw [if_pos (by omega), if_pos (by omega), if_pos (by omega), if_pos (by omega)]
    have e1 : rd s (j : Int) = s[j]'(by omega) := by simp [rd, show j < s.length by omega]
    have e2 : rd t (j : Int) = t[j]'(by omega) := by simp [rd, show j < t.length by omega]
    rw [e1, e2, @List.drop_eq_getElem_cons _ j s (by omega), @List.drop_eq_getElem_cons _ j t (by omega), w64 (n := (j : Int) + 1) (by omega)]
    by_cases e : s[j]'(by omega) = t[j]'(by omega)
    · rw [if_pos e]
      have h := ih (j + 1) f (by omega) (by omega)
      refine h.trans ?_
      congr 1
      rw [decide_eq_decide]
      constructor
      · intro h2; rw [e, h2]
      · intro h2; injection h2
    · rw [if_neg e]
      congr 1
      symm
      rw [decide_eq_false_iff_not]
      intro h
      injection h with h1 h2
      exact e h1
theorem equal_f {s t : List Int} (hl : s.length ≤ 1000000) (ht : t.length = s.length) : liveness_set_equal.f (s.length + 1) s t = some (decide (s = t)) := by
  unfold liveness_set_equal.f liveness_set_uint64_118.f
  rw [if_pos (by omega)]
  have h := equal_go s t hl ht s.length 0 (s.length + 1) (by omega) (by omega)
  simp only [List.drop_zero] at h
  rw [show ((0 : Nat) : Int) = 0 from rfl] at h
  rw [h]
  rfl
end Go.Proofs.Ytadaopfcgpfiiaa
