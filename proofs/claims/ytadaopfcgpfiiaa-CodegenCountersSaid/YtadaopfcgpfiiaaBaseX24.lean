/- Lemmas: what the theorem of the claim's last text needs, joined by a program out of the seat's texts C9, D0, D1. -/
import Derived.Test.YtadaopfcgpfiiaaBaseX23
import Derived.Test.YtadaopfcgpfiiaaBaseX20
import Derived.Test.YtadaopfcgpfiiaaBaseX22
import Derived.Deep.RegionHeld3
import Derived.Laws.ResultCell
import Derived.Laws.Rows
import Derived.Test.YtadaopfcgpfiiaaBaseX14
import Derived.IntWalk
namespace Go.Proofs.Ytadaopfcgpfiiaa
open Go.RowKit Go.Proofs.YtadaopfcgpfiiaaW.PrintWords Go.Proofs.YtadaopfcgpfiiaaW.PrintLast Go.Proofs.YtadaopfcgpfiiaaW.PrintMore PCg
set_option linter.unusedVariables false
set_option linter.unusedSimpArgs false
/-- what an allocation is good for -/
def AllocOk (regs : Int) (places : List (Int × Int)) (slots : Int) : Prop :=
  (places.length : Int) = regs ∧ 0 ≤ slots ∧ slots ≤ 10000 ∧ ∀ p ∈ places, (p.2 = -1 ∧ 2 ≤ p.1 ∧ p.1 ≤ 9) ∨ (p.1 = 0 ∧ 0 ≤ p.2 ∧ p.2 < slots)
theorem GMap.put {w : World} {mb N : Nat} {m : ByteArray → Int} (h : GMap w mb N m) (hN : N < maxLen) {s : ByteArray} (hs : s.size ≤ maxLen) (v : Int) (hv : (Lit.int .i64 v).wf = true) :
    ∃ w', (Instr.mapUpdate 87 (.map (some mb)) (.string s) (.int .i64 v)).run Try.prog w = .ok () w' ∧ GMap w' mb (N + 1) (fun s' => if s' = s then v else m s') ∧ w.grownBy w' (some mb) := by
  obtain ⟨D, h, hm, hl⟩ := h
  obtain ⟨w', hr, ho, hg⟩ := h.update (Maps.string_keyed Try.underlying9) Try.underlying87 hN (WideMaps.keyOf_string_mk Try.underlying9 hs) (plainElem_int Try.underlying3 hv)
  refine ⟨w', hr, ⟨_, ho, hm.put _ _, fun s' hs' => ?_⟩, hg⟩
  by_cases e : s' = s
  · subst e
    rw [Maps.atKey_put_same hm (by trivial)]
    simp only [if_true]
  · rw [Maps.atKey_put_other (fun he => e (ByteArray.ext (Array.ext' (by simpa using he))))]
    simp only [if_neg e]
    exact hl s' hs'
/-- the addresses of the first k arrays -/
def mapTo (arrs : List S44) (addr : List Int) : Nat → ByteArray → Int
  | 0 => fun _ => 0
  | k + 1 => fun s => if s = (rd_T44 arrs k).f0 then rd addr k else mapTo arrs addr k s
/-- the stores that clear the spill slots -/
def genStores (sp : Int) (n : Nat) : List S53 := (List.range n).map (fun (s : Nat) => (⟨19, 0, 0, 0, sp + (s : Int)⟩ : S53))
theorem genStores_succ (sp : Int) (n : Nat) : genStores sp (n + 1) = genStores sp n ++ [⟨19, 0, 0, 0, sp + n⟩] := by simp [genStores, List.range_succ]
/-- the code of the first k blocks -/
def genTo (sp : Int) (pl : List (Int × Int)) (m : ByteArray → Int) (blks : List S49) (st : GSt) : Nat → GSt
  | 0 => st
  | k + 1 => genBlk sp pl m (genTo sp pl m blks st k) k (rd_T49 blks k)
def sumTo (blks : List S49) : Nat → Nat
  | 0 => 0
  | k + 1 => sumTo blks k + (rd_T49 blks k).f0.length
theorem sumTo_le (blks : List S49) {j k : Nat} (h : j ≤ k) : sumTo blks j ≤ sumTo blks k := by
  induction k with
  | zero => rw [show j = 0 by omega]; exact Nat.le_refl _
  | succ k ih =>
    rcases Nat.lt_or_ge j (k + 1) with h' | h'
    · exact Nat.le_trans (ih (by omega)) (Nat.le_add_right _ _)
    · rw [show j = k + 1 by omega]; exact Nat.le_refl _
theorem genBlk_sz (sp : Int) (pl : List (Int × Int)) (m : ByteArray → Int) (st : GSt) (k : Int) (b : S49) :
    (genBlk sp pl m st k b).code.length ≤ st.code.length + 8 * b.f0.length + 3 ∧ (genBlk sp pl m st k b).refs.length ≤ st.refs.length + b.f0.length ∧ (genBlk sp pl m st k b).starts = st.starts ++ [(st.code.length : Int)] ∧ (genBlk sp pl m st k b).patches.length ≤ st.patches.length + 2 := by
  obtain ⟨a1, a2, a3, a4⟩ := genCode_sz sp pl m b.f0 st.start
  have h1 := useCode_len sp (rdTwo pl b.f2) 14
  unfold genBlk
  simp only
  generalize genCode sp pl m st.start b.f0 = st2 at *
  simp only [GSt.start] at a1 a2 a3 a4
  split
  · simp only [GSt.emit, List.length_append, List.length_cons, List.length_nil, a4]; exact ⟨by omega, a2, a3, by omega⟩
  · split
    · split
      · simp only [GSt.emit, GSt.leap, List.length_append, List.length_cons, List.length_nil, a4]; exact ⟨by omega, a2, a3, by omega⟩
      · simp only [GSt.emit, GSt.leap, List.length_append, List.length_cons, List.length_nil, a4]; exact ⟨by omega, a2, a3, by omega⟩
    · split
      · rw [a4]; exact ⟨by omega, a2, a3, by omega⟩
      · simp only [GSt.emit, GSt.leap, List.length_append, List.length_cons, List.length_nil, a4]; exact ⟨by omega, a2, a3, by omega⟩
theorem genTo_sz (sp : Int) (pl : List (Int × Int)) (m : ByteArray → Int) (blks : List S49) (st : GSt) (k : Nat) :
    (genTo sp pl m blks st k).code.length ≤ st.code.length + 8 * sumTo blks k + 3 * k ∧ (genTo sp pl m blks st k).refs.length ≤ st.refs.length + sumTo blks k ∧ (genTo sp pl m blks st k).starts.length = st.starts.length + k ∧ (genTo sp pl m blks st k).patches.length ≤ st.patches.length + 2 * k := by
  induction k with
  | zero => simp [genTo, sumTo]
  | succ k ih =>
    obtain ⟨a1, a2, a3, a4⟩ := ih
    obtain ⟨b1, b2, b3, b4⟩ := genBlk_sz sp pl m (genTo sp pl m blks st k) k (rd_T49 blks k)
    simp only [genTo, sumTo]
    refine ⟨by omega, by omega, ?_, by omega⟩
    rw [b3]; simp; omega
def zeroObj : Value := .agg #[.string ⟨#[]⟩, .slice none 0 0, .int .i64 0, .slice none 0 0]
/-- the code ahead of the patches -/
def genTask (arrs : List S44) (addr : List Int) (size : Int) (blks : List S49) (places : List (Int × Int)) (slots : Int) : GSt :=
  genTo size places (mapTo arrs addr arrs.length) blks ⟨genStores size slots.toNat, [], [], []⟩ blks.length
/-- a branch finds its block -/
def patch1 (starts : List Int) (code : List S53) (p : Int × Int) : List S53 :=
  code.set p.1.toNat ⟨(rd_T53 code p.1).f0, (rd_T53 code p.1).f1, (rd_T53 code p.1).f2, (rd_T53 code p.1).f3, rd starts p.2 - p.1 - 1⟩
def patchAll (st : GSt) : List S53 := st.patches.foldl (patch1 st.starts) st.code
/-- what Task answers for a valid function -/
def TaskOut (nm : ByteArray) (arrs : List S44) (addr : List Int) (size : Int) (blks : List S49) (places : List (Int × Int)) (slots : Int) (e : Ending) (w w' : World) : Prop :=
  ((512 < size + slots ∨ 4096 < (genTask arrs addr size blks places slots).code.length) ∧ e = .returned (.tuple #[zeroObj, .int .i64 5]) ∧ Below w.heap.size w w') ∨
  (size + slots ≤ 512 ∧ (genTask arrs addr size blks places slots).code.length ≤ 4096 ∧ ∃ vc vr, e = .returned (.tuple #[.agg #[.string nm, vc, .int .i64 (size + slots), vr], .int .i64 0]) ∧
    Kd.R k53 53 w' w.heap.size (fun _ => True) vc (patchAll (genTask arrs addr size blks places slots)) ∧ Kd.R k105 105 w' w.heap.size (fun _ => True) vr (genTask arrs addr size blks places slots).refs ∧ Below w.heap.size w w')
theorem code_addr {W : World} {base n cap : Nat} {ok : Nat → Prop} {A : Option Addr} {xs : List S53} (h : Kd.R k53 53 W base ok (.slice A n cap) xs) (hn : 0 < n) : ∃ g cells, A = some ⟨g, 0, none⟩ ∧ W.heap[g]? = some (.cells cells 53 (0, 0)) := by
  obtain ⟨_, inner, hown, hr⟩ := h
  rcases hown.2 with ⟨hv, _⟩ | ⟨g', cap', cur, hv, hb, hh, _⟩
  · injection hv with h1 h2 h3; omega
  · injection hv with h1 h2 h3
    exact ⟨g', cur, h1, hh⟩
theorem code_put {W : World} {base g n cap : Nat} {ok : Nat → Prop} {xs : List S53} (h : Kd.R k53 53 W base ok (.slice (some ⟨g, 0, none⟩) n cap) xs) (i : Int) (h0 : 0 ≤ i) (h1 : i < n) (v : Int) :
    Kd.R k53 53 (W.setCell ⟨g, i.toNat * 5 + 4, none⟩ (.int .i64 v)) base ok (.slice (some ⟨g, 0, none⟩) n cap) (xs.set i.toNat ⟨(rd_T53 xs i).f0, (rd_T53 xs i).f1, (rd_T53 xs i).f2, (rd_T53 xs i).f3, v⟩) ∧ W.grownBy (W.setCell ⟨g, i.toNat * 5 + 4, none⟩ (.int .i64 v)) (some g) := by
  obtain ⟨hn, hnc, hC⟩ := Kd.R_reads' h
  subst hn
  obtain ⟨ad, c, e, hl, hK, hc⟩ := Kd.C_get hC z53 i h0 h1
  obtain rfl := k53_open hK
  injection e with e
  have hcc : ∀ j u, ([.int .u8 (rd_T53 xs i).f0, .int .i64 (rd_T53 xs i).f1, .int .i64 (rd_T53 xs i).f2, .int .i64 (rd_T53 xs i).f3, .int .i64 (rd_T53 xs i).f4] : List Value)[j]? = some u → W.cell? ⟨g, i.toNat * k53.sz + j, none⟩ = some u := fun j u hj => by
    have := hc j u hj
    rw [← e] at this
    have ha : (⟨g, 0, none⟩ : Addr).add (i.toNat * k53.sz + j) = ⟨g, i.toNat * k53.sz + j, none⟩ := add_plain g _
    rwa [ha] at this
  exact Kd.R_seg h i h0 h1 (c := [.int .u8 (rd_T53 xs i).f0, .int .i64 (rd_T53 xs i).f1, .int .i64 (rd_T53 xs i).f2, .int .i64 (rd_T53 xs i).f3, .int .i64 (rd_T53 xs i).f4]) (seg := [.int .i64 v]) (j := 4) (okp := fun _ => False) rfl hcc (Nat.le_refl 5) (k53_mkM _ _ _ ⟨(rd_T53 xs i).f0, (rd_T53 xs i).f1, (rd_T53 xs i).f2, (rd_T53 xs i).f3, v⟩) (fun _ h => h.elim)
def patchTo (st : GSt) (k : Nat) : List S53 := (st.patches.take k).foldl (patch1 st.starts) st.code
theorem patchTo_len (st : GSt) (k : Nat) : (patchTo st k).length = st.code.length := by
  unfold patchTo
  generalize st.patches.take k = l
  generalize st.code = c
  induction l generalizing c with
  | nil => rfl
  | cons p l ih => rw [List.foldl_cons, ih]; simp [patch1]
theorem patchTo_step (st : GSt) (k : Int) (h0 : 0 ≤ k) (h1 : k < st.patches.length) : patch1 st.starts (patchTo st k.toNat) (rdTwo st.patches k) = patchTo st (k + 1).toNat := by
  rw [show (k + 1).toNat = k.toNat + 1 from by omega]
  unfold patchTo
  rw [List.take_add_one, List.getElem?_eq_getElem (by omega)]
  simp only [Option.toList_some, List.foldl_append, List.foldl_cons, List.foldl_nil, rdTwo, List.getD_eq_getElem?_getD]
  rw [List.getElem?_eq_getElem (by omega)]
  rfl
/-- the patches lie within the code, their blocks among the blocks -/
def patchOk (st : GSt) : Prop := (∀ p ∈ st.patches, (0 ≤ p.1 ∧ p.1 < st.code.length) ∧ 0 ≤ p.2 ∧ p.2 < st.starts.length) ∧ ∀ x ∈ st.starts, 0 ≤ x ∧ x ≤ 1000000
theorem task_info : (Try.prog.info? 31).map (·.size) = some 4 := by kernel_rfl
theorem task_ret {R : Ending → World → Prop} {a : Act} {w : World} (g : Nat) (c0 c1 c2 c3 v : Value) (hp : a.tmps.getD 2 undef = .pointer (some ⟨g, 0, none⟩)) (h3 : a.tmps.getD 3 undef = v) (hg : w.heap[g]? = some (.cells #[c0, c1, c2, c3] 31 (0, 0))) (hd : a.defers = [])
    (hR : R (.returned (.tuple #[.agg #[c0, c1, c2, c3], v])) w) : bodyPost Try.prog Try.f12 R .ret a w := by
  refine bodyPost_ret (v := .tuple #[.agg #[c0, c1, c2, c3], v]) ?_ hd hR
  rw [results_cell_tmp (p := 2) (u := 3) (ty := 31) rfl, hp, h3]
  simp only [asAddr, Sem.run_pure, Result.andThen_ok]
  rw [run_loadVar_row w g 31 31 #[c0, c1, c2, c3] (0, 0) _ hg Try.underlying31 rfl task_info]
  rfl
theorem blk_post {w0 : World} {g : Nat} {O : Nat → Prop} {E : GEnv} {st : GSt} {w2 W w : World} (h : GPost w0.heap.size g O E w2 st W) (hk : Below W.heap.size W w) (hB2 : Below w0.heap.size w0 w2)
    (Ap : Option Addr) (cp : Nat) (places : List (Int × Int)) (N : Nat) (m : ByteArray → Int) (A3 : Option Addr) (c3 : Nat) (blks : List S49) (k : Int) (hP : Kd.C kTwo w0 Ap places.length places) (hpv : E.pv = .slice Ap places.length cp)
    (hr3 : Kd.C k49 w0 A3 blks.length blks) (hcp3 : blks.length ≤ c3) (hm3 : blks.length ≤ 1000000) (hbv : E.bv = .slice A3 blks.length c3) (k0 : 0 ≤ k) (k1 : k < blks.length)
    (hM : GMap w2 E.mb N m) (hmg : E.mb ≠ g) (hmO : ¬ O E.mb) (s0 : 0 ≤ E.spill) (s1 : E.spill ≤ 1000000) (hpl : ∀ v, (rdTwo places v).2 ≤ 1000000) (hpre : blkPre places.length (rd_T49 blks k))
    (hsz : st.code.length + 8 * (rd_T49 blks k).f0.length + 20 ≤ 1000000) (hrz : st.refs.length + (rd_T49 blks k).f0.length + 1 ≤ 1000000) (hsz2 : st.starts.length + 1 ≤ 1000000) (hsz3 : st.patches.length + 2 ≤ 1000000) :
    Calls Try.prog 30 #[.pointer (some ⟨g, 0, none⟩), .int .i64 k] w
      fun e w' => e = .returned (.tuple #[]) ∧ GPost w0.heap.size g O E w2 (genBlk E.spill places m st k (rd_T49 blks k)) w' := by
  have hB := h.base
  have hb := (hB2.trans (gpost_below h)).trans (hk.mono hB)
  have hM' := (hM.post h hmg hmO).below hk
  have hml := hM.lt
  obtain ⟨O1, hG, hO, hk1⟩ := h
  have hmO1 : ¬ O1 E.mb := fun h3 => by
    rcases hO _ h3 with h | h
    · exact hmO h
    · omega
  exact (block_any w0 g O1 E st Ap cp places N m A3 c3 blks k w (hG.below hk) hb hP hpv hr3 hcp3 hm3 hbv k0 k1 hM' hmg hmO1 s0 s1 hpl hpre hsz hrz hsz2 hsz3).mono (fun e w' ⟨r, q⟩ => ⟨r, GPost.trans hk1 hO (GPost.pre hB hk q)⟩)
theorem allocOk_pl {regs : Int} {places : List (Int × Int)} {slots : Int} (h : AllocOk regs places slots) (v : Int) : (rdTwo places v).2 ≤ 1000000 := by
  unfold rdTwo
  rw [List.getD_eq_getElem?_getD]
  cases hg : places[v.toNat]? with
  | none => simp
  | some p =>
    have h1 := h.2.2.1
    rcases h.2.2.2 p (List.mem_of_getElem? hg) with h2 | h2
    · simp; omega
    · simp; omega
set_option maxRecDepth 100000 in
set_option maxHeartbeats 4000000 in
theorem task_any (P : List (Int × Int) → Int → Prop) (K : Nat) (nm : ByteArray) (regs : Int) (A : Option Addr) (c : Nat) (arrs : List S44) (A3 : Option Addr) (c3 : Nat) (blks : List S49) (ment : List S44) (addr : List Int) (size : Int) (w : World)
    (hr : Kd.C k44 w A arrs.length arrs) (hcp : arrs.length ≤ c)
    (hr3 : Kd.C k49 w A3 blks.length blks) (hcp3 : blks.length ≤ c3) (hm3 : blks.length ≤ 10000) (hmc : ∀ b ∈ blks, b.f0.length ≤ 1000000)
    (hment : ∀ W, Below w.heap.size w W → Calls Try.prog 27 #[.agg #[.string nm, .int .i64 regs, .slice A arrs.length c, .slice A3 blks.length c3]] W
      fun e w' => ∃ A2 c2, e = .returned (.slice A2 ment.length c2) ∧ ment.length ≤ c2 ∧ Kd.C k44 w' A2 ment.length ment ∧ Below W.heap.size W w') (hmm : ment.length ≤ 9223372036854775806) (hlay : codegen_Layout.f K arrs = some (addr, size)) (hs01 : irOk regs arrs blks ment = true → 0 ≤ size ∧ size ≤ 1000000000000) (hal : addr.length = arrs.length) (hna0 : irOk regs arrs blks ment = true → arrs.length ≤ 1000000) (hns : ∀ a ∈ arrs, a.f0.size ≤ maxLen) (hwf : ∀ x ∈ addr, (Lit.int .i64 x).wf = true) (hbp : irOk regs arrs blks ment = true → ∀ b ∈ blks, blkPre regs.toNat b) (hsum : sumTo blks blks.length ≤ 50000)
    (htp : irOk regs arrs blks ment = true → ∀ places slots, AllocOk regs places slots → patchOk (genTask arrs addr size blks places slots))
    (hA : irOk regs arrs blks ment = true → ∀ W, Below w.heap.size w W → Calls Try.prog 28 #[.agg #[.string nm, .int .i64 regs, .slice A arrs.length c, .slice A3 blks.length c3]] W
      fun e W' => ∃ places slots Ap cp, P places slots ∧ e = .returned (.tuple #[.agg #[.slice Ap places.length cp, .int .i64 slots], .int .i64 0]) ∧ Kd.C kTwo W' Ap places.length places ∧ AllocOk regs places slots ∧ Below W.heap.size W W') :
    Calls Try.prog 12 #[.agg #[.string nm, .int .i64 regs, .slice A arrs.length c, .slice A3 blks.length c3]] w
      fun e w' => (irOk regs arrs blks ment = false ∧ e = .returned (.tuple #[zeroObj, .int .i64 3]) ∧ Below w.heap.size w w') ∨ (irOk regs arrs blks ment = true ∧ ∃ places slots, P places slots ∧ AllocOk regs places slots ∧ TaskOut nm arrs addr size blks places slots e w w') := by
  have HR := Aside0.mk hr; have HR3 := Aside0.mk hr3; have HMC := Aside0.mk hmc; have HME := Aside0.mk hment; have HLA := Aside0.mk hlay; have HA := Aside0.mk hA; have HNS := Aside0.mk hns; have HWF := Aside0.mk hwf; have HBP := Aside0.mk hbp; have HTP := Aside0.mk htp; have HS01 := Aside0.mk hs01; have HNA0 := Aside0.mk hna0
  clear hr hr3 hmc hment hlay hA hns hwf hbp htp hs01 hna0
  have hu := Try.underlying25
  have hu2 := Try.underlying31
  have hu3 := Try.underlying83
  have hu4 := Try.underlying90
  obtain ⟨W1, hW1⟩ : ∃ W1, (w.alloc (.cells #[.string nm, .int .i64 regs, .slice A arrs.length c, .slice A3 blks.length c3] 25)).alloc (.cells #[.string ⟨#[]⟩, .slice none 0 0, .int .i64 0, .slice none 0 0] 31) = W1 := ⟨_, rfl⟩
  have hb1 : Below w.heap.size w W1 := by rw [← hW1]; exact below_alloc (below_alloc (Below.refl _ _) _) _
  have hF1 : W1.heap[w.heap.size]? = some (.cells #[.string nm, .int .i64 regs, .slice A arrs.length c, .slice A3 blks.length c3] 25 (0, 0)) := by rw [← hW1]; exact blk_alloc (blk_new _ _) _
  have hO1 : W1.heap[w.heap.size + 1]? = some (.cells #[.string ⟨#[]⟩, .slice none 0 0, .int .i64 0, .slice none 0 0] 31 (0, 0)) := by rw [← hW1]; exact heap_alloc_at _ _ _ (by simp)
  have HB1 := Aside0.mk hb1; have HF1 := Aside0.mk hF1; have HO1 := Aside0.mk hO1
  obtain ⟨f0, f1, f2, f3⟩ := blk4 hF1
  obtain ⟨o0, o1, o2, o3⟩ := blk4 hO1
  have hlF := blk_lt hF1
  have hlO := blk_lt hO1
  clear hb1 hF1 hO1
  have hm : (K : Nat) = K := rfl
  go_enter Try.func12, Try.ntmps12
  go_wp2_with fail
  have HV : Aside0 (∀ A2 c2 W v, Below w.heap.size w W → Kd.C k44 W A2 ment.length ment → ment.length ≤ c2 → irOk regs arrs blks ment = v → Calls Try.prog 13 #[.agg #[.string nm, .int .i64 regs, .slice A arrs.length c, .slice A3 blks.length c3], .slice A2 ment.length c2] W
      fun e w' => e = .returned (.bool v) ∧ Below W.heap.size W w') := ⟨fun A2 c2 W v hW h2 hc2 hv => by
    subst hv
    exact irValid_any nm regs A c arrs A3 c3 blks A2 c2 ment W (Kd.C_below HR.out hW) hcp (Kd.C_below HR3.out hW) hcp3 (by omega) (fun b hb => by have := HMC.out b hb; omega) h2 hc2 hmm⟩
  have HMN := HME
  cases hv : irOk regs arrs blks ment with
  | false =>
    have HVV := Aside0.mk hv; clear hv
    go_region_held3 (fun W => W.cell? ⟨w.heap.size, 0, none⟩ = some (.string nm) ∧ W.cell? ⟨w.heap.size, 1, none⟩ = some (.int .i64 regs) ∧ W.cell? ⟨w.heap.size, 2, none⟩ = some (.slice A arrs.length c) ∧ W.cell? ⟨w.heap.size, 3, none⟩ = some (.slice A3 blks.length c3) ∧ Aside0 (Below W1.heap.size W1 W))
      (first
        | exact ⟨by go_keep, by go_keep, by go_keep, by go_keep, ⟨below_drew (Below.refl _ _)⟩⟩
        | (go_split_ands; exact ⟨keepCell hlF (by assumption) hb2 (by assumption), keepCell hlF (by assumption) hb2 (by assumption), keepCell hlF (by assumption) hb2 (by assumption), keepCell hlF (by assumption) hb2 (by assumption), keepBelow (by assumption) hb2⟩))
      (first
        | (go_at_call 27
           with_reducible refine (HMN.out _ (below_step HB1.out (Aside0.out ?_))).mono ?_
           (go_split_ands; assumption)
           rintro e w2 ⟨A2, c2, rfl, hl2, hC2, hb2⟩
           have HC2 := Aside0.mk hC2; have HL2 := Aside0.mk hl2; clear hC2 hl2)
        | (go_at_call 13
           with_reducible refine (HV.out A2 c2 _ false (below_step HB1.out (Aside0.out ?_)) HC2.out HL2.out HVV.out).mono ?_
           (go_split_ands; assumption)
           rintro e w3 ⟨rfl, hb2⟩))
    have hb3 : Below W1.heap.size W1 w3 := by go_split_ands; exact Aside0.out (by assumption)
    have hO3 := blk_below HO1.out hb3
    have fr0 := blk_frozen hO3 0
    have fr1 := blk_frozen hO3 1
    have fr2 := blk_frozen hO3 2
    have fr3 := blk_frozen hO3 3
    have hl3 := blk_lt hO3
    clear o0 o1 o2 o3
    obtain ⟨o0, o1, o2, o3⟩ := blk4 hO3
    have HO3 := Aside0.mk hO3
    have HB3 := Aside0.mk (below_step HB1.out hb3)
    clear hO3 hb3 hb2
    go_wp2_with fail
    exact task_ret (w.heap.size + 1) _ _ _ _ _ rfl rfl (blk_put (blk_put (blk_put (blk_put HO3.out 0 _ rfl) 1 _ rfl) 2 _ rfl) 3 _ rfl) rfl
      (.inl ⟨HVV.out, rfl, below_set (below_set (below_set (below_set HB3.out (by omega)) (by omega)) (by omega)) (by omega)⟩)
  | true =>
    have HVV := Aside0.mk hv; clear hv
    obtain ⟨hs0, hs1⟩ := HS01.out HVV.out
    have hna := HNA0.out HVV.out
    go_region_held3 (fun W => W.cell? ⟨w.heap.size, 0, none⟩ = some (.string nm) ∧ W.cell? ⟨w.heap.size, 1, none⟩ = some (.int .i64 regs) ∧ W.cell? ⟨w.heap.size, 2, none⟩ = some (.slice A arrs.length c) ∧ W.cell? ⟨w.heap.size, 3, none⟩ = some (.slice A3 blks.length c3) ∧ Aside0 (Below W1.heap.size W1 W))
      (first
        | exact ⟨by go_keep, by go_keep, by go_keep, by go_keep, ⟨below_drew (Below.refl _ _)⟩⟩
        | (go_split_ands; exact ⟨keepCell hlF (by assumption) hb2 (by assumption), keepCell hlF (by assumption) hb2 (by assumption), keepCell hlF (by assumption) hb2 (by assumption), keepCell hlF (by assumption) hb2 (by assumption), keepBelow (by assumption) hb2⟩))
      (first
        | (go_at_call 27
           with_reducible refine (HMN.out _ (below_step HB1.out (Aside0.out ?_))).mono ?_
           (go_split_ands; assumption)
           rintro e w2 ⟨A2, c2, rfl, hl2, hC2, hb2⟩
           have HC2 := Aside0.mk hC2; have HL2 := Aside0.mk hl2; clear hC2 hl2)
        | (go_at_call 13
           with_reducible refine (HV.out A2 c2 _ true (below_step HB1.out (Aside0.out ?_)) HC2.out HL2.out HVV.out).mono ?_
           (go_split_ands; assumption)
           rintro e w3 ⟨rfl, hb2⟩))
    have hb3 : Below W1.heap.size W1 w3 := by go_split_ands; exact Aside0.out (by assumption)
    have HO3 := Aside0.mk (blk_below HO1.out hb3)
    have HF3 := Aside0.mk (blk_below HF1.out hb3)
    have HB3 := Aside0.mk (below_step HB1.out hb3)
    clear f0 f1 f2 f3 o0 o1 o2 o3
    obtain ⟨f0, f1, f2, f3⟩ := blk4 HF3.out
    have hl3 := blk_lt HF3.out
    clear hb3 hb2
    have hdone : (K : Nat) = K := rfl
    go_wp2_with (first
      | (go_at_call 28
         refine (HA.out HVV.out _ HB3.out).mono ?_
         rintro e w4 ⟨places, slots, Ap, cp, hP, rfl, hPl, hAO, hb4⟩
         have HPP := Aside0.mk hP; have HPl := Aside0.mk hPl; have HAO := Aside0.mk hAO; have HO4 := Aside0.mk (blk_below HO3.out hb4); have HF4 := Aside0.mk (blk_below HF3.out hb4); have HB4 := Aside0.mk (below_step HB3.out hb4)
         clear f0 f1 f2 f3
         obtain ⟨f0, f1, f2, f3⟩ := blk4 HF4.out
         have hl4 := blk_lt HF4.out
         have HA5 := Aside0.mk (blk_new w4 (.cells #[.slice Ap places.length cp, .int .i64 slots] 83))
         have hw5 : Below w4.heap.size w4 (w4.alloc (.cells #[.slice Ap places.length cp, .int .i64 slots] 83)) := below_alloc (Below.refl _ _) _
         have HW5 := Aside0.mk hw5
         clear hP hPl hAO hb4 hw5)
      | (go_at_call 15
         refine (codegen_Layout.calls K A c arrs addr size _ (Kd.C_below HR.out (below_step HB4.out HW5.out)) hcp HLA.out).mono ?_
         rintro e w6 ⟨v0, rfl, hR6, hb6⟩
         obtain ⟨A6, c6, rfl, hl6, hC6⟩ := Kd.R_reads hR6
         have HO6 := Aside0.mk (blk_below (blk_below HO4.out HW5.out) hb6); have HF6 := Aside0.mk (blk_below (blk_below HF4.out HW5.out) hb6); have HA6 := Aside0.mk (blk_below HA5.out hb6)
         have HPl6 := Aside0.mk (Kd.C_below HPl.out (below_step HW5.out hb6))
         have HB6 := Aside0.mk (below_step HB4.out (below_step HW5.out hb6))
         have HC6 := Aside0.mk hC6
         clear f0 f1 f2 f3
         obtain ⟨f0, f1, f2, f3⟩ := blk4 HF6.out
         obtain ⟨a0, a1⟩ := blk2 HA6.out
         have hlf6 := blk_lt HF6.out
         have hla6 := blk_lt HA6.out
         have hlc6 := hl6
         have hAO := HAO.out
         have hws : IntKind.i64.wrap (size + slots) = size + slots := IntWalk.i64_in _ (by have h1 := hAO.2.1; have h2 := hAO.2.2.1; omega)
         have hmk : (Instr.makeMap 87 none).run Try.prog w6 = .ok (.map (some w6.heap.size)) (w6.alloc (.map #[] 0)) := rfl
         clear hR6 hC6 hb6 hAO))
    obtain ⟨W8, hW8⟩ : ∃ W8, (w6.alloc (.map #[] 0)).alloc (.cells #[.string nm, .slice none 0 0, .int .i64 (size + slots), .slice none 0 0, .string nm, .int .i64 regs, .slice A arrs.length c, .slice A3 blks.length c3, .slice Ap places.length cp, .int .i64 slots, .map (some w6.heap.size), .int .i64 size, .slice none 0 0, .slice none 0 0] 90) = W8 := ⟨_, rfl⟩
    rw [hW8]
    obtain ⟨E, hE⟩ : ∃ E : GEnv, E = ⟨nm, size + slots, nm, regs, .slice A arrs.length c, .slice A3 blks.length c3, .slice Ap places.length cp, slots, w6.heap.size, size⟩ := ⟨_, rfl⟩
    have HB8 : Aside0 (Below w6.heap.size w6 W8) := ⟨by rw [← hW8]; exact below_alloc (below_alloc (Below.refl _ _) _) _⟩
    have HG8 : Aside0 (Gen W8 w6.heap.size (w6.heap.size + 1) (fun _ => False) E ⟨[], [], [], []⟩) := ⟨by
      refine ⟨.slice none 0 0, .slice none 0 0, .slice none 0 0, .slice none 0 0, ?_, by omega, HB8.out.size, fun _ h => h.elim, Kd.R_nil _ _ _ _ _, Kd.R_nil _ _ _ _ _, Kd.R_nil _ _ _ _ _, Kd.R_nil _ _ _ _ _⟩
      rw [← hW8, hE]; exact heap_alloc_at _ _ _ (by simp)⟩
    have HM8 : Aside0 (GMap W8 w6.heap.size 0 (mapTo arrs addr 0)) := ⟨by rw [← hW8]; exact (gmap_made w6).below (below_alloc (Below.refl _ _) _)⟩
    have HF8 := Aside0.mk (blk_below HF6.out HB8.out)
    clear f0 f1 f2 f3 a0 a1 hmk
    have HE := Aside0.mk hE
    clear hE hW8
    have hmb : E.mb = w6.heap.size := by rw [HE.out]
    go_loopw [52] (fun i wr => ∃ k : Int, i = .int .i64 k ∧ 0 ≤ k ∧ k ≤ arrs.length ∧ Aside0 (Gen wr w6.heap.size (w6.heap.size + 1) (fun _ => False) E ⟨[], [], [], []⟩) ∧ Aside0 (GMap wr w6.heap.size k.toNat (mapTo arrs addr k.toNat)) ∧ Aside0 (Below w6.heap.size w6 wr)) (fun i wr => arrs.length - (intOf i).toNat)
    case atStart => exact ⟨0, rfl, Int.le_refl _, by omega, HG8, HM8, HB8⟩
    case round =>
      obtain ⟨k, rfl, hk0, hk, HG, HM, HB⟩ := hrel
      have hgr := HG.out.lt
      have cg2 : wr.cell? ⟨w6.heap.size + 1, 2, none⟩ = some (.int .i64 (size + slots)) := by
        obtain ⟨_, _, _, _, hb, _⟩ := HG.out
        exact (blk_cell hb 2).trans (by rw [HE.out]; rfl)
      have cg10 : wr.cell? ⟨w6.heap.size + 1, 10, none⟩ = some (.map (some w6.heap.size)) := by
        obtain ⟨_, _, _, _, hb, _⟩ := HG.out
        exact (blk_cell hb 10).trans (by rw [HE.out]; rfl)
      by_cases hlt : k < arrs.length
      · obtain ⟨ad, hA', h0, h1⟩ := at_T44 HR.out k hk0 hlt
        cases hA'
        have HBw : Aside0 (Below w.heap.size w wr) := ⟨below_step HB6.out HB.out⟩
        replace h0 := (HBw.out.cell (World.block_lt_of_cell? w _ h0)).trans h0
        replace h1 := (HBw.out.cell (World.block_lt_of_cell? w _ h1)).trans h1
        obtain ⟨ad7, hA7, e0⟩ := Kd.at_int HC6.out k hk0 (by omega)
        cases hA7
        replace e0 := (HB.out.cell (World.block_lt_of_cell? w6 _ e0)).trans e0
        have p110 := eq_true hk0
        have q110 := eq_true hlt
        have hns : (rd_T44 arrs k).f0.size ≤ maxLen := HNS.out _ (mem_rd hk0 hlt)
        have hkm : k.toNat < maxLen := Nat.lt_of_le_of_lt (show k.toNat ≤ 1000001 by omega) (by decide)
        obtain ⟨w', hrun, hM', hg'⟩ := ((HM.out.below (below_alloc (Below.refl _ _) (.cells #[.string (rd_T44 arrs k).f0, .int .i64 (rd_T44 arrs k).f1] 44))).below (below_drew (Below.refl _ _))).put hkm hns (rd addr k) (HWF.out _ (mem_rd hk0 (by omega)))
        have e1 : (wr.alloc (.cells #[.string (rd_T44 arrs k).f0, .int .i64 (rd_T44 arrs k).f1] 44)).cell? (ad7.add k.toNat) = _ := ((below_alloc (Below.refl _ _) _).cell (World.block_lt_of_cell? wr _ e0)).trans e0
        go_wp2_with fail
        go_region
        go_wp2
        go_roundw
        case rel =>
          refine ⟨k + 1, rfl, by omega, by omega, ⟨?_⟩, ⟨?_⟩, ⟨?_⟩⟩
          · exact ((HG.out.below (below_alloc (Below.refl _ _) _)).below (below_drew (Below.refl _ _))).kept (S := fun j => j = w6.heap.size) (Kept.of_grown hg' (Kept.refl _ _) (fun j hj => .inl (by injection hj with hj; exact hj.symm))) (by omega) (fun _ h => h.elim)
          · rw [show (k + 1).toNat = k.toNat + 1 from by omega]
            rw [show k = ((k.toNat : Nat) : Int) from by omega] at hM'
            exact hM'
          · exact (HB.out.trans ((below_drew (below_alloc (Below.refl _ _) _)).mono HB.out.size)).grown hg' (by have := HB.out.size; simp; omega) (fun j hj => by injection hj with hj; omega)
        case measure => simp [intOf]; omega
      · have hke : k.toNat = arrs.length := by omega
        have HM9 : Aside0 (GMap wr E.mb arrs.length (mapTo arrs addr arrs.length)) := ⟨by rw [hmb]; have h := HM.out; rw [hke] at h; exact h⟩
        have HF9 := Aside0.mk (blk_below HF6.out HB.out)
        have HA9 := Aside0.mk (blk_below HA6.out HB.out)
        have HO9 := Aside0.mk (blk_below HO6.out HB.out)
        obtain ⟨f0, f1, f2, f3⟩ := blk4 HF9.out
        obtain ⟨a0, a1⟩ := blk2 HA9.out
        have hlF9 := blk_lt HF9.out
        have hlA9 := blk_lt HA9.out
        have HP9 : Aside0 (Kd.C kTwo w6 Ap places.length places) := HPl6
        have HR39 : Aside0 (Kd.C k49 w6 A3 blks.length blks) := ⟨Kd.C_below HR3.out HB6.out⟩
        have HBB9 := Aside0.mk (below_step HB6.out HB.out)
        clear HM hke
        by_cases hbig : 512 < size + slots
        · have hbig' := eq_true hbig
          obtain ⟨o0, o1, o2, o3⟩ := blk4 HO9.out
          have fr0 := blk_frozen HO9.out 0
          have fr1 := blk_frozen HO9.out 1
          have fr2 := blk_frozen HO9.out 2
          have fr3 := blk_frozen HO9.out 3
          have hlO9 := blk_lt HO9.out
          go_wp2_with fail
          exact task_ret (w.heap.size + 1) _ _ _ _ _ rfl rfl (blk_put (blk_put (blk_put (blk_put HO9.out 0 _ rfl) 1 _ rfl) 2 _ rfl) 3 _ rfl) rfl
            (.inr ⟨HVV.out, places, slots, HPP.out, HAO.out, .inl ⟨.inl hbig, rfl, below_set (below_set (below_set (below_set HBB9.out (by omega)) (by omega)) (by omega)) (by omega)⟩⟩)
        · have hbig' : ¬ (512 < size + slots) := hbig
          have hsp : E.spill = size := by rw [HE.out]
          obtain ⟨W2, rfl⟩ : ∃ W2 : World, W2 = wr := ⟨_, rfl⟩
          have HQ0 : Aside0 (GPost w6.heap.size (w6.heap.size + 1) (fun _ => False) E W2 ⟨genStores size 0, [], [], []⟩ W2) := ⟨GPost.same HG.out⟩
          have hsl0 := HAO.out.2.1
          have hsl1 := HAO.out.2.2.1
          have HWB2 : Aside0 (Below w6.heap.size w6 W2) := ⟨HB.out⟩
          go_wp2_with fail
          clear f0 f1 f2 f3 a0 a1 cg2 cg10 HG HB
          go_loopw [77] (fun i wr => ∃ k : Int, i = .int .i64 k ∧ 0 ≤ k ∧ k ≤ slots ∧ Aside0 (GPost w6.heap.size (w6.heap.size + 1) (fun _ => False) E W2 ⟨genStores size k.toNat, [], [], []⟩ wr)) (fun i wr => slots.toNat - (intOf i).toNat)
          case atStart => exact ⟨0, rfl, Int.le_refl _, hsl0, HQ0⟩
          case round =>
            obtain ⟨k2, rfl, hk20, hk2, HQ⟩ := hrel
            by_cases hlt2 : k2 < slots
            · have c11 := gpost_cell11 HQ.out
              rw [hsp] at c11
              have hlg := World.block_lt_of_cell? wr _ c11
              have hwk : IntKind.i64.wrap (size + k2) = size + k2 := IntWalk.i64_in _ (by omega)
              go_wp2_with (first
                | (go_at_call 29
                   with_reducible refine (emit1_post HQ.out ?_ _ 53 19 0 0 0 (size + k2) ?_ ?_).mono ?_
                   (first | exact Below.refl _ _ | exact below_drew (Below.refl _ _) | exact below_alloc (Below.refl _ _) _ | exact below_drew (below_alloc (Below.refl _ _) _))
                   (first | exact blk_new _ _ | exact blk_drew (blk_new _ _))
                   (simp only [genStores, List.length_map, List.length_range]; omega)
                   rintro e w9 ⟨rfl, hq9⟩
                   have hq := Aside0.mk hq9; clear hq9))
              go_roundw
              case rel =>
                refine ⟨k2 + 1, rfl, by omega, by omega, ⟨gpost_code hq.out ?_⟩⟩
                rw [show (k2 + 1).toNat = k2.toNat + 1 from by omega, genStores_succ, show ((k2.toNat : Nat) : Int) = k2 from by omega]
                rfl
              case measure => simp [intOf]; omega
            · have hke2 : k2.toNat = slots.toNat := by omega
              have HQ2 : Aside0 (GPost w6.heap.size (w6.heap.size + 1) (fun _ => False) E W2 (genTo size places (mapTo arrs addr arrs.length) blks ⟨genStores size slots.toNat, [], [], []⟩ 0) wr) := ⟨by have h := HQ.out; rw [hke2] at h; exact h⟩
              clear HQ hke2 hk2 hk20
              obtain ⟨f0, f1, f2, f3⟩ := blk4 (gpost_blk HQ2.out HF9.out (by omega) (fun h => h))
              have hlF2 := blk_lt (gpost_blk HQ2.out HF9.out (by omega) (fun h => h))
              go_wp2_with fail
              clear f0 f1 f2 f3
              go_loopw [94] (fun i wr => ∃ k : Int, i = .int .i64 k ∧ 0 ≤ k ∧ k ≤ blks.length ∧ Aside0 (GPost w6.heap.size (w6.heap.size + 1) (fun _ => False) E W2 (genTo size places (mapTo arrs addr arrs.length) blks ⟨genStores size slots.toNat, [], [], []⟩ k.toNat) wr)) (fun i wr => blks.length - (intOf i).toNat)
              case atStart => exact ⟨0, rfl, Int.le_refl _, by omega, HQ2⟩
              case round =>
                obtain ⟨k3, rfl, hk30, hk3, HQ⟩ := hrel
                have hz := genTo_sz size places (mapTo arrs addr arrs.length) blks ⟨genStores size slots.toNat, [], [], []⟩ k3.toNat
                have hst0 : (genStores size slots.toNat).length ≤ 10000 := by simp only [genStores, List.length_map, List.length_range]; omega
                simp only [List.length_nil] at hz
                obtain ⟨hz1, hz2, hz3, hz4⟩ := hz
                have hsk : sumTo blks k3.toNat ≤ sumTo blks blks.length := sumTo_le blks (by omega)
                by_cases hlt3 : k3 < blks.length
                · have hsk1 : sumTo blks (k3.toNat + 1) ≤ sumTo blks blks.length := sumTo_le blks (by omega)
                  have hkk : ((k3.toNat : Nat) : Int) = k3 := by omega
                  have hsk2 : sumTo blks k3.toNat + (rd_T49 blks k3).f0.length ≤ 50000 := by
                    simp only [sumTo, hkk] at hsk1
                    omega
                  have HSZ : Aside0 (_ ∧ _ ∧ _ ∧ _) := ⟨hz1, hz2, hz3, hz4⟩
                  have hpre : blkPre places.length (rd_T49 blks k3) := by
                    have h1 := HBP.out HVV.out _ (mem_rd (xs := blks) (z := z49) hk30 hlt3)
                    rw [show places.length = regs.toNat from by have := HAO.out.1; omega]
                    exact h1
                  have HPRE := Aside0.mk hpre
                  clear hpre
                  go_wp2_with (first
                    | (go_at_call 30
                       refine (blk_post HQ.out (Below.refl _ _) HWB2.out Ap cp places arrs.length (mapTo arrs addr arrs.length) A3 c3 blks k3 HP9.out (by rw [HE.out]) HR39.out hcp3 (by omega) (by rw [HE.out]) hk30 hlt3 HM9.out (by rw [hmb]; omega) (fun h => h) (by rw [hsp]; omega) (by rw [hsp]; omega) (allocOk_pl HAO.out) HPRE.out ?_ ?_ ?_ ?_).mono ?_
                       (omega)
                       (omega)
                       (omega)
                       (omega)
                       rintro e w9 ⟨rfl, hq9⟩
                       rw [hsp] at hq9
                       have hq := Aside0.mk hq9; clear hq9))
                  go_roundw
                  case rel =>
                    refine ⟨k3 + 1, rfl, by omega, by omega, ⟨gpost_code hq.out ?_⟩⟩
                    rw [show (k3 + 1).toNat = k3.toNat + 1 from by omega, genTo, hkk]
                  case measure => simp [intOf]; omega
                · have hke3 : k3.toNat = blks.length := by omega
                  rw [hke3] at hz1 hz2 hz3 hz4
                  have HQ3 : Aside0 (GPost w6.heap.size (w6.heap.size + 1) (fun _ => False) E W2 (genTask arrs addr size blks places slots) wr) := ⟨by have h := HQ.out; rw [hke3] at h; exact h⟩
                  rw [show genTo size places (mapTo arrs addr arrs.length) blks ⟨genStores size slots.toNat, [], [], []⟩ blks.length = genTask arrs addr size blks places slots from rfl] at hz1 hz2 hz3 hz4
                  clear HQ hke3 hk3 hk30 hsk
                  obtain ⟨O3, hG3, hO3, hK3⟩ := HQ3.out
                  obtain ⟨vc, vr, vs, vp, hb3, hBg3, hBW3, hOl3, r1, r2, r3, r4⟩ := hG3
                  obtain ⟨Ac, cc, hvc⟩ := Kd.R_slice r1
                  obtain ⟨Apt, cpt, hvp⟩ := Kd.R_slice r4
                  obtain ⟨As, cs, hvs⟩ := Kd.R_slice r3
                  subst hvc hvp hvs
                  have HO10 := Aside0.mk (gpost_blk HQ3.out HO9.out (by omega) (fun h => h))
                  have HBB10 : Aside0 (Below w.heap.size w wr) := ⟨HBB9.out.trans ((gpost_below HQ3.out).mono HB6.out.size)⟩
                  have HK3 := Aside0.mk hK3; have HOL := Aside0.mk hOl3
                  have HG3 := Aside0.mk hb3; have HR1 := Aside0.mk r1; have HR2 := Aside0.mk r2; have HRS := Aside0.mk r3; have HRP := Aside0.mk r4
                  have d1 : wr.cell? ⟨w6.heap.size + 1, 1, none⟩ = some (.slice Ac (genTask arrs addr size blks places slots).code.length cc) := (blk_cell hb3 1).trans rfl
                  have d13 : wr.cell? ⟨w6.heap.size + 1, 13, none⟩ = some (.slice Apt (genTask arrs addr size blks places slots).patches.length cpt) := (blk_cell hb3 13).trans rfl
                  have hlg := blk_lt hb3
                  clear hb3 r1 r2 r3 r4 hK3 hO3 hOl3
                  by_cases hc : 4096 < (genTask arrs addr size blks places slots).code.length
                  · have hci := eq_true (show (4096 : Int) < ((genTask arrs addr size blks places slots).code.length : Int) by omega)
                    have hcn := eq_true hc
                    obtain ⟨o0, o1, o2, o3⟩ := blk4 HO10.out
                    have fr0 := blk_frozen HO10.out 0
                    have fr1 := blk_frozen HO10.out 1
                    have fr2 := blk_frozen HO10.out 2
                    have fr3 := blk_frozen HO10.out 3
                    have hlO9 := blk_lt HO10.out
                    go_wp2_with fail
                    exact task_ret (w.heap.size + 1) _ _ _ _ _ rfl rfl (blk_put (blk_put (blk_put (blk_put HO10.out 0 _ rfl) 1 _ rfl) 2 _ rfl) 3 _ rfl) rfl
                      (.inr ⟨HVV.out, places, slots, HPP.out, HAO.out, .inl ⟨.inr hc, rfl, below_set (below_set (below_set (below_set HBB10.out (by omega)) (by omega)) (by omega)) (by omega)⟩⟩)
                  · have hci := eq_false (show ¬ (4096 : Int) < ((genTask arrs addr size blks places slots).code.length : Int) by omega)
                    have hcn := eq_false hc
                    go_wp2_with fail
                    have hpok := HTP.out HVV.out places slots HAO.out
                    have HPO := Aside0.mk hpok
                    clear hpok d1 d13 hci hcn hz1 hz2 hst0
                    have HRS0 : Aside0 (Kd.R k53 53 wr w6.heap.size O3 (.slice Ac (genTask arrs addr size blks places slots).code.length cc) (patchTo (genTask arrs addr size blks places slots) 0)) := ⟨HR1.out⟩
                    have HW3 : Aside0 (Below w6.heap.size w6 wr) := ⟨HWB2.out.trans (gpost_below HQ3.out)⟩
                    obtain ⟨T, hT⟩ : ∃ T, genTask arrs addr size blks places slots = T := ⟨_, rfl⟩
                    rw [hT] at hz3 hz4 HRS0 HR2 HRS HRP HG3 HPO hc ⊢
                    have HT := Aside0.mk hT
                    clear hT HR1 HQ3 hlg
                    go_loopw [114] (fun i wr => ∃ k : Int, i = .int .i64 k ∧ 0 ≤ k ∧ k ≤ T.patches.length ∧ Aside0 (wr.heap[w6.heap.size + 1]? = some (.cells (gcells E (.slice Ac T.code.length cc) vr (.slice As T.starts.length cs) (.slice Apt T.patches.length cpt)) 90 (0, 0))) ∧
                        Aside0 (Kd.R k53 53 wr w6.heap.size O3 (.slice Ac T.code.length cc) (patchTo T k.toNat)) ∧ Aside0 (Kd.R k105 105 wr w6.heap.size O3 vr T.refs) ∧ Aside0 (Kd.R (Kd.int .i64) 3 wr w6.heap.size O3 (.slice As T.starts.length cs) T.starts) ∧
                        Aside0 (Kd.R kTwo 94 wr w6.heap.size O3 (.slice Apt T.patches.length cpt) T.patches) ∧ Aside0 (Below w6.heap.size w6 wr)) (fun i wr => T.patches.length - (intOf i).toNat)
                    case atStart => exact ⟨0, rfl, Int.le_refl _, by omega, HG3, HRS0, HR2, HRS, HRP, HW3⟩
                    case round =>
                      obtain ⟨k4, rfl, hk40, hk4, HG4, HC4, HR4, HS4, HP4, HW4⟩ := hrel
                      by_cases hlt4 : k4 < T.patches.length
                      · obtain ⟨ap, hAp, q0, q1⟩ := atTwo (Kd.R_reads' HP4.out).2.2 k4 hk40 hlt4
                        cases hAp
                        obtain ⟨⟨t0, t1⟩, t2, t3⟩ := HPO.out.1 (rdTwo T.patches k4) (mem_rd hk40 hlt4)
                        have HST := Aside0.mk (patchTo_step T k4 hk40 hlt4)
                        obtain ⟨pp, hpp⟩ : ∃ pp, rdTwo T.patches k4 = pp := ⟨_, rfl⟩
                        rw [hpp] at q0 q1 t0 t1 t2 t3 HST
                        clear hpp
                        obtain ⟨W10, hW10⟩ : ∃ W10, wr.alloc (.cells #[.int .i64 pp.1, .int .i64 pp.2] 94) = W10 := ⟨_, rfl⟩
                        have HB10 : Aside0 (Below wr.heap.size wr W10) := ⟨by rw [← hW10]; exact below_alloc (Below.refl _ _) _⟩
                        have HX10 : Aside0 (W10.heap[wr.heap.size]? = some (.cells #[.int .i64 pp.1, .int .i64 pp.2] 94 (0, 0))) := ⟨by rw [← hW10]; exact blk_new _ _⟩
                        have HG10 := Aside0.mk (blk_below HG4.out HB10.out)
                        have HC10 := Aside0.mk (Kd.R_below HC4.out HB10.out)
                        have HS10 := Aside0.mk (Kd.R_below HS4.out HB10.out)
                        have c1 : W10.cell? ⟨w6.heap.size + 1, 1, none⟩ = some (.slice Ac T.code.length cc) := (blk_cell HG10.out 1).trans rfl
                        have c12 : W10.cell? ⟨w6.heap.size + 1, 12, none⟩ = some (.slice As T.starts.length cs) := (blk_cell HG10.out 12).trans rfl
                        obtain ⟨x0, x1⟩ := blk2 HX10.out
                        obtain ⟨asx, hAs, s0⟩ := Kd.at_int (Kd.R_reads' HS10.out).2.2 pp.2 t2 t3
                        cases hAs
                        obtain ⟨ac, hAc, y0, y1, y2, y3, y4⟩ := at_T53 (Kd.R_reads' HC10.out).2.2 pp.1 t0 (by rw [patchTo_len]; exact t1)
                        obtain ⟨gc, ccs, hAc', hbc⟩ := code_addr HC10.out (by omega)
                        cases hAc
                        have hac : ac = ⟨gc, 0, none⟩ := by injection hAc'
                        have HBC := Aside0.mk hbc
                        have HAC := Aside0.mk hac
                        have hadd : (⟨(ac.add (pp.1.toNat * 5)).block, (ac.add (pp.1.toNat * 5)).off + 4, none⟩ : Addr) = ⟨gc, pp.1.toNat * 5 + 4, none⟩ := by rw [hac, add_plain]
                        have hfr : W10.frozen? ⟨(ac.add (pp.1.toNat * 5)).block, (ac.add (pp.1.toNat * 5)).off + 4, none⟩ = false := by rw [hadd]; exact blk_frozen hbc _
                        have HADD := Aside0.mk hadd
                        have hlc : (ac.add (pp.1.toNat * 5)).block < W10.heap.size := World.block_lt_of_cell? W10 _ y0
                        obtain ⟨sb0, sb1⟩ := HPO.out.2 (rd T.starts pp.2) (mem_rd t2 t3)
                        have hc4 : T.code.length ≤ 4096 := by omega
                        have hws1 : IntKind.i64.wrap (rd T.starts pp.2 - pp.1) = rd T.starts pp.2 - pp.1 := IntWalk.i64_in _ (by omega)
                        have hws2 : IntKind.i64.wrap (rd T.starts pp.2 - pp.1 - 1) = rd T.starts pp.2 - pp.1 - 1 := IntWalk.i64_in _ (by omega)
                        have p1a := eq_true t0
                        have p1b := eq_true t1
                        have p2a := eq_true t2
                        have p2b := eq_true t3
                        have p3a := eq_true hk40
                        have p3b := eq_true hlt4
                        clear hAc' hbc hac hadd y0 y1 y2 y3
                        go_wp2_with fail
                        go_region
                        go_wp2
                        go_roundw
                        case rel =>
                          have hc9 := HC10.out
                          rw [HAC.out] at hc9
                          obtain ⟨p1, p2⟩ := code_put hc9 pp.1 t0 t1 (rd T.starts pp.2 - pp.1 - 1)
                          have hne4 : w6.heap.size + 1 ≠ gc := blk_ne HG10.out HBC.out (by decide)
                          have hbase : w6.heap.size ≤ gc := Kd.R_base hc9 gc rfl
                          have hR10 := Kd.R_below HR4.out HB10.out
                          have hP10 := Kd.R_below HP4.out HB10.out
                          rw [HADD.out]
                          have hst := HST.out
                          unfold patch1 at hst
                          rw [hst] at p1
                          refine ⟨k4 + 1, rfl, by omega, by omega, ⟨?_⟩, ⟨?_⟩, ⟨?_⟩, ⟨?_⟩, ⟨?_⟩, ⟨?_⟩⟩
                          · exact blk_drew (blk_far HG10.out hne4 _)
                          · rw [HAC.out]; exact Kd.R_below p1 (below_drew (Below.refl _ _))
                          · exact Kd.R_below (Kd.R_over hR10 hc9 (by decide) p2) (below_drew (Below.refl _ _))
                          · exact Kd.R_below (Kd.R_over HS10.out hc9 (by decide) p2) (below_drew (Below.refl _ _))
                          · exact Kd.R_below (Kd.R_over hP10 hc9 (by decide) p2) (below_drew (Below.refl _ _))
                          · exact below_drew (Below.setCell (p := ⟨gc, pp.1.toNat * 5 + 4, none⟩) (HW4.out.trans (HB10.out.mono HW4.out.size)) hbase _)
                        case measure => simp [intOf]; omega
                      · have hke4 : k4.toNat = T.patches.length := by omega
                        have hC9 := HC4.out
                        rw [hke4, show patchTo T T.patches.length = patchAll T from by unfold patchTo patchAll; rw [List.take_length]] at hC9
                        have HC9 := Aside0.mk hC9
                        have HO11 := Aside0.mk (blk_below HO6.out HW4.out)
                        have HBB11 := Aside0.mk (below_step HB6.out HW4.out)
                        clear hC9 HC4 hke4
                        obtain ⟨o0, o1, o2, o3⟩ := blk4 HO11.out
                        have fr0 := blk_frozen HO11.out 0
                        have fr1 := blk_frozen HO11.out 1
                        have fr2 := blk_frozen HO11.out 2
                        have fr3 := blk_frozen HO11.out 3
                        have hlO9 := blk_lt HO11.out
                        have g0 : wr.cell? ⟨w6.heap.size + 1, 0, none⟩ = some (.string nm) := (blk_cell HG4.out 0).trans (by rw [HE.out]; rfl)
                        have g1 : wr.cell? ⟨w6.heap.size + 1, 1, none⟩ = some (.slice Ac T.code.length cc) := (blk_cell HG4.out 1).trans rfl
                        have g2 : wr.cell? ⟨w6.heap.size + 1, 2, none⟩ = some (.int .i64 (size + slots)) := (blk_cell HG4.out 2).trans (by rw [HE.out]; rfl)
                        have g3 : wr.cell? ⟨w6.heap.size + 1, 3, none⟩ = some vr := (blk_cell HG4.out 3).trans rfl
                        obtain ⟨Ar, cr, hvr⟩ := Kd.R_slice HR4.out
                        subst hvr
                        have hlG := blk_lt HG4.out
                        go_wp2_with fail
                        have hb0 := blk_put HO11.out 0 (.string nm) rfl
                        have hb1 := blk_put hb0 1 (.slice Ac T.code.length cc) rfl
                        have hb2 := blk_put hb1 2 (.int .i64 (size + slots)) rfl
                        have hb3 := blk_put hb2 3 (.slice Ar T.refs.length cr) rfl
                        refine task_ret (w.heap.size + 1) _ _ _ _ _ rfl rfl hb3 rfl (.inr ⟨HVV.out, places, slots, HPP.out, HAO.out, .inr ⟨by omega, by rw [HT.out]; omega, _, _, rfl, ?_, ?_, below_set (below_set (below_set (below_set HBB11.out (by omega)) (by omega)) (by omega)) (by omega)⟩⟩)
                        · rw [HT.out]
                          exact Kd.R_mono (Kd.R_lower (Kd.R_set (Kd.R_set (Kd.R_set (Kd.R_set HC9.out HO11.out (by decide) 0 _) hb0 (by decide) 1 _) hb1 (by decide) 2 _) hb2 (by decide) 3 _) HB6.out.size) (fun _ _ => trivial)
                        · rw [HT.out]
                          exact Kd.R_mono (Kd.R_lower (Kd.R_set (Kd.R_set (Kd.R_set (Kd.R_set HR4.out HO11.out (by decide) 0 _) hb0 (by decide) 1 _) hb1 (by decide) 2 _) hb2 (by decide) 3 _) HB6.out.size) (fun _ _ => trivial)
end Go.Proofs.Ytadaopfcgpfiiaa
namespace Go.Proofs.Ytadaopfcgpfiiaa
open Go.RowKit Go.Proofs.YtadaopfcgpfiiaaW.PrintWords Go.Proofs.YtadaopfcgpfiiaaW.PrintLast Go.Proofs.YtadaopfcgpfiiaaW.PrintMore PCg
set_option linter.unusedVariables false
set_option linter.unusedSimpArgs false
theorem w64 {n : Int} (h : -9223372036854775808 ≤ n ∧ n ≤ 9223372036854775807) : wrap64 n = n := IntWalk.wrap64_in n h
/-- the address of array k -/
def layA (arrs : List S44) : Nat → Int
  | 0 => 0
  | k + 1 => wrap64 (layA arrs k + mx (rd_T44 arrs k).f1 0)
def layAll (arrs : List S44) (k : Nat) : List Int := (List.range k).map (layA arrs)
theorem layAll_len (arrs : List S44) (k : Nat) : (layAll arrs k).length = k := by simp [layAll]
theorem layout_go (arrs : List S44) (hl : arrs.length ≤ 1000000) : ∀ n j fuel : Nat, j + n = arrs.length → n < fuel →
    codegen_Layout.l0 fuel (layAll arrs j) (layA arrs j) arrs (arrs.length : Int) (j : Int) = some (layAll arrs arrs.length, layA arrs arrs.length) := by
  intro n
  induction n with
  | zero =>
    intro j fuel hj hf
    obtain ⟨f, rfl⟩ : ∃ f, fuel = f + 1 := ⟨fuel - 1, by omega⟩
    have e : j = arrs.length := by omega
    subst e
    unfold codegen_Layout.l0
    rw [if_neg (by omega)]
  | succ n ih =>
    intro j fuel hj hf
    obtain ⟨f, rfl⟩ : ∃ f, fuel = f + 1 := ⟨fuel - 1, by omega⟩
    unfold codegen_Layout.l0
    rw [if_pos (by omega), if_pos (by omega), if_pos (by omega), if_pos (by rw [layAll_len]; omega), w64 (n := (j : Int) + 1) (by omega)]
    have h := ih (j + 1) f (by omega) (by omega)
    rw [show layAll arrs (j + 1) = layAll arrs j ++ [layA arrs j] from by simp [layAll, List.range_succ]] at h
    rw [show layA arrs (j + 1) = wrap64 (layA arrs j + mx (rd_T44 arrs (j : Int)).f1 0) from rfl] at h
    rw [show ((j + 1 : Nat) : Int) = (j : Int) + 1 from by omega] at h
    exact h
theorem layout_f (arrs : List S44) (hl : arrs.length ≤ 1000000) (K : Nat) (hK : arrs.length < K) : codegen_Layout.f K arrs = some (layAll arrs arrs.length, layA arrs arrs.length) := by
  have h := layout_go arrs hl arrs.length 0 K (by omega) hK
  exact h
end Go.Proofs.Ytadaopfcgpfiiaa
namespace Go.Proofs.Ytadaopfcgpfiiaa
open Go.RowKit Go.Proofs.YtadaopfcgpfiiaaW.PrintWords Go.Proofs.YtadaopfcgpfiiaaW.PrintLast Go.Proofs.YtadaopfcgpfiiaaW.PrintMore PCg
set_option linter.unusedVariables false
set_option linter.unusedSimpArgs false
def memA (acc : List S44) (nm : ByteArray) (v : Int) : Bool := acc.any (fun a => nm.toList == a.f0.toList && (v == a.f1))
theorem index_go (xs : List S44) (nm : ByteArray) (v : Int) (hl : xs.length ≤ 1000000) : ∀ n j fuel : Nat, j + n = xs.length → n < fuel →
    ∃ r, api_Array_64.l0 fuel xs (xs.length : Int) (j : Int) nm v = some r ∧ decide (r ≥ 0) = memA (xs.drop j) nm v := by
  intro n
  induction n with
  | zero =>
    intro j fuel hj hf
    obtain ⟨f, rfl⟩ : ∃ f, fuel = f + 1 := ⟨fuel - 1, by omega⟩
    refine ⟨-1, ?_, ?_⟩
    · unfold api_Array_64.l0; rw [if_neg (by omega)]
    · rw [List.drop_eq_nil_of_le (by omega)]; rfl
  | succ n ih =>
    intro j fuel hj hf
    obtain ⟨f, rfl⟩ : ∃ f, fuel = f + 1 := ⟨fuel - 1, by omega⟩
    have hd : xs.drop j = rd_T44 xs (j : Int) :: xs.drop (j + 1) := by
      rw [List.drop_eq_getElem_cons (by omega)]
      congr 1
      simp [rd_T44, show j < xs.length by omega]
    unfold api_Array_64.l0
    rw [if_pos (by omega), if_pos (by omega), if_pos (by omega)]
    by_cases he : (nm.toList == (rd_T44 xs (j : Int)).f0.toList && v == (rd_T44 xs (j : Int)).f1) = true
    · refine ⟨j, by rw [if_pos he], ?_⟩
      rw [hd, memA, List.any_cons, he, Bool.true_or]
      exact decide_eq_true (by omega)
    · obtain ⟨r, h1, h2⟩ := ih (j + 1) f (by omega) (by omega)
      refine ⟨r, ?_, ?_⟩
      · rw [if_neg he, w64 (n := (j : Int) + 1) (by omega)]
        exact h1
      · rw [hd, memA, List.any_cons, Bool.eq_false_iff.2 he, Bool.false_or]
        exact h2
theorem contains_f (xs : List S44) (nm : ByteArray) (v : Int) (hl : xs.length ≤ 1000000) (K : Nat) (hK : xs.length < K) : api_Array_45.f K xs nm v = some (memA xs nm v) := by
  obtain ⟨r, h1, h2⟩ := index_go xs nm v hl xs.length 0 K (by omega) hK
  unfold api_Array_45.f api_Array_64.f
  have h1' : api_Array_64.l0 K xs (xs.length : Int) 0 nm v = some r := h1
  rw [h1', Option.bind_some, h2]
  rfl
def isShr (op : Int) : Bool := op == 6 || op == 7 || op == 11 || op == 12
def mentI (acc : List S44) (i : S51) : List S44 := if isShr i.f0 = true then (if memA acc i.f5 1 = true then acc else acc ++ [⟨i.f5, 1⟩]) else acc
def mentB (acc : List S44) (b : S49) : List S44 := b.f0.foldl mentI acc
def mentL (blks : List S49) : List S44 := blks.foldl mentB []
theorem mentI_len (acc : List S44) (i : S51) : (mentI acc i).length ≤ acc.length + 1 := by
  unfold mentI; split
  · split
    · omega
    · simp
  · omega
theorem mentB_len (l : List S51) : ∀ acc : List S44, (l.foldl mentI acc).length ≤ acc.length + l.length := by
  induction l with
  | nil => intro acc; exact Nat.le_refl _
  | cons i l ih => intro acc; have h1 := ih (mentI acc i); have h2 := mentI_len acc i; simp only [List.foldl_cons, List.length_cons]; omega
end Go.Proofs.Ytadaopfcgpfiiaa
