/- Lemmas: what the theorem of the claim's last text needs, joined by a program out of the seat's texts P0, O0, S0, S1. -/
import Derived.Test.YtadaopfcgpfiiaaBaseX33
import Derived.Test.YtadaopfcgpfiiaaBaseX36
import Derived.Deep.RegionHeld3
import Derived.Test.YtadaopfcgpfiiaaBaseX14
import Derived.Test.YtadaopfcgpfiiaaRows
import Derived.Deep.Slices
import Derived.ProofKit
import Derived.OpenShut
import Derived.ShutString
import Derived.ChangeOld
import Derived.Below
import Derived.Carry
import Derived.SizedLaws
import Derived.Test.YtadaopfcgpfiiaaBaseX32
namespace Go.Proofs.Ytadaopfcgpfiiaa
open Go.RowKit Go.Proofs.YtadaopfcgpfiiaaW.PrintWords Go.Proofs.YtadaopfcgpfiiaaW.PrintLast Go.Proofs.YtadaopfcgpfiiaaW.PrintMore PCg
set_option linter.unusedVariables false
set_option linter.unusedSimpArgs false
theorem instrB_op {x : S53} (h : instrB x = true) : 0 ≤ x.f0 ∧ x.f0 < 256 := by
  unfold instrB at h
  cases hf : fmtOf x.f0 with
  | none => rw [hf] at h; cases h
  | some p =>
    unfold fmtOf at hf
    repeat' split at hf
    all_goals first | (cases hf; done) | omega
theorem patch_ops {nb : Int} {st : GSt} (h : GOk nb st) : ∀ x ∈ patchAll st, 0 ≤ x.f0 ∧ x.f0 < 256 := by
  intro x hx
  have h1 : x.f0 ∈ (patchAll st).map (fun x => x.f0) := List.mem_map.2 ⟨x, hx, rfl⟩
  rw [patch_f0 h] at h1
  obtain ⟨y, hy, e⟩ := List.mem_map.1 h1
  rw [← e]
  exact instrB_op (h.ins y hy)
theorem rk_len : ∀ (l : List S53) (p : Int), (rk p l).length ≤ l.length := by
  intro l
  induction l with
  | nil => intro p; exact Nat.le_refl _
  | cons x l ih =>
    intro p
    have := ih (p + 1)
    simp only [rk, List.length_cons]
    split <;> (try simp only [List.length_cons]) <;> omega
/-- what Task answers for a valid function within the bounds of the statements -/
def TaskGood (nm : ByteArray) (regs : Int) (arrs : List S44) (blks : List S49) (w : World) (e : Ending) (w' : World) : Prop :=
  ∃ (st : GSt) (places : List (Int × Int)) (slots : Int) (vc vr : Value), st = genTask arrs (layAll arrs arrs.length) (layA arrs arrs.length) blks places slots ∧ AllocOk regs places slots ∧ e = .returned (.tuple #[.agg #[.string nm, vc, .int .i64 (layA arrs arrs.length + slots), vr], .int .i64 0]) ∧
    Kd.R k53 53 w' w.heap.size (fun _ => True) vc (patchAll st) ∧ Kd.R k105 105 w' w.heap.size (fun _ => True) vr st.refs ∧ Below w.heap.size w w' ∧
    GOk blks.length st ∧ st.code.length ≤ 4096 ∧ st.refs.length ≤ 4096 ∧ objB (patchAll st) (layA arrs arrs.length + slots) st.refs = true
theorem task_good (nm : ByteArray) (regs : Int) (A : Option Addr) (c : Nat) (arrs : List S44) (A3 : Option Addr) (c3 : Nat) (blks : List S49) (w : World)
    (hr : Kd.C k44 w A arrs.length arrs) (hcp : arrs.length ≤ c) (hr3 : Kd.C k49 w A3 blks.length blks) (hcp3 : blks.length ≤ c3)
    (hrg : regs ≤ 60) (hm3 : blks.length ≤ 20) (hsum : (blks.map (fun b => b.f0.length)).sum ≤ 300) (hns : ∀ a ∈ arrs, a.f0.size ≤ maxLen) (hnb : ∀ b ∈ blks, ∀ i ∈ b.f0, i.f5.size ≤ maxLen)
    (hok : irOk regs arrs blks (mentL blks) = true) :
    Calls Try.prog 12 #[.agg #[.string nm, .int .i64 regs, .slice A arrs.length c, .slice A3 blks.length c3]] w (TaskGood nm regs arrs blks w) := by
  have hF := irOk_facts hok
  have hz := size_in hok
  refine (task_small nm regs A c arrs A3 c3 blks w hr hcp hr3 hcp3 (by omega) (by omega) (by omega) hns hnb).mono ?_
  rintro e w' (⟨h, _⟩ | ⟨_, places, slots, hA, hs, hT⟩)
  · rw [hok] at h; cases h
  · have hcs := code_small arrs (layAll arrs arrs.length) (layA arrs arrs.length) blks places slots
    have hs0 := hA.2.1
    rcases hT with ⟨h, _⟩ | ⟨h1, h2, vc, vr, he, hC, hR, hb⟩
    · exfalso; omega
    · have hG := gOk_task hok hA h1
      have hl : (genTask arrs (layAll arrs arrs.length) (layA arrs arrs.length) blks places slots).refs.length ≤ 4096 := by
        have := congrArg List.length hG.refs
        rw [List.length_map] at this
        have := rk_len (genTask arrs (layAll arrs arrs.length) (layA arrs arrs.length) blks places slots).code 0
        omega
      exact ⟨_, places, slots, vc, vr, rfl, hA, he, hC, hR, hb, hG, h2, hl, objB_task hok hA h1 h2⟩
theorem one_box {α : Type} {K : Kd α} {W : World} {b t : Nat} {cs : Array Value} {x : α} (h : W.heap[b]? = some (.cells cs t (0, 0))) (hK : K.K W x cs.toList) : Kd.C K W (some ⟨b, 0, none⟩) 1 [x] := by
  refine ⟨rfl, by omega, fun _ => ⟨⟨b, 0, none⟩, rfl, fun j p hj => ?_⟩⟩
  match j, hj with
  | 0, hj =>
    have hp : x = p := by simpa using hj
    subst hp
    refine ⟨cs.toList, by simpa using K.K_len hK, hK, fun q u hu => ?_⟩
    have ha : (⟨b, 0, none⟩ : Addr).add (0 * K.sz + q) = ⟨b, q, none⟩ := by rw [Nat.zero_mul, Nat.zero_add]; exact add_plain b q
    rw [ha, blk_cell h q]
    simpa using hu
  | j + 1, hj => simp at hj
/-- the block of the chapter's example -/
def awkBlk : S49 := ⟨[⟨10, 0, 0, 0, 2, ⟨#[]⟩⟩], 3, 0, 0, 0⟩
theorem awk_ok : irOk 1 [] [awkBlk] (mentL [awkBlk]) = true := by kernel_rfl
set_option maxRecDepth 100000 in
set_option maxHeartbeats 2000000 in
theorem awk_task (w2 : World) : Calls Try.prog 12 #[.agg #[.string ⟨#[102]⟩, .int .i64 1, .slice none 0 0, .slice (some ⟨w2.heap.size + 1, 0, none⟩) 1 1]]
    ((w2.alloc (.cells #[.int .u8 10, .int .i64 0, .int .i64 0, .int .i64 0, .int .i64 2, .string ⟨#[]⟩] 51)).alloc (.cells #[.slice (some ⟨w2.heap.size, 0, none⟩) 1 1, .int .u8 3, .int .i64 0, .int .i64 0, .int .i64 0] 49))
    (TaskGood ⟨#[102]⟩ 1 [] [awkBlk] ((w2.alloc (.cells #[.int .u8 10, .int .i64 0, .int .i64 0, .int .i64 0, .int .i64 2, .string ⟨#[]⟩] 51)).alloc (.cells #[.slice (some ⟨w2.heap.size, 0, none⟩) 1 1, .int .u8 3, .int .i64 0, .int .i64 0, .int .i64 0] 49))) := by
  have h1 := blk_alloc (blk_new w2 (.cells #[.int .u8 10, .int .i64 0, .int .i64 0, .int .i64 0, .int .i64 2, .string ⟨#[]⟩] 51)) (.cells #[.slice (some ⟨w2.heap.size, 0, none⟩) 1 1, .int .u8 3, .int .i64 0, .int .i64 0, .int .i64 0] 49)
  have h2 := heap_alloc_at (w2.alloc (.cells #[.int .u8 10, .int .i64 0, .int .i64 0, .int .i64 0, .int .i64 2, .string ⟨#[]⟩] 51)) (.cells #[.slice (some ⟨w2.heap.size, 0, none⟩) 1 1, .int .u8 3, .int .i64 0, .int .i64 0, .int .i64 0] 49) (w2.heap.size + 1) (by simp)
  generalize ((w2.alloc (.cells #[.int .u8 10, .int .i64 0, .int .i64 0, .int .i64 0, .int .i64 2, .string ⟨#[]⟩] 51)).alloc (.cells #[.slice (some ⟨w2.heap.size, 0, none⟩) 1 1, .int .u8 3, .int .i64 0, .int .i64 0, .int .i64 0] 49)) = W at *
  have c1 : Kd.C k51 W (some ⟨w2.heap.size, 0, none⟩) 1 [⟨10, 0, 0, 0, 2, ⟨#[]⟩⟩] := one_box h1 (k51_mk W ⟨10, 0, 0, 0, 2, ⟨#[]⟩⟩)
  have c2 : Kd.C k49 W (some ⟨w2.heap.size + 1, 0, none⟩) 1 [awkBlk] := one_box h2 (k49_mk W awkBlk (Nat.le_refl 1) c1)
  refine task_good ⟨#[102]⟩ 1 none 0 [] (some ⟨w2.heap.size + 1, 0, none⟩) 1 [awkBlk] W ⟨rfl, by simp, by simp⟩ (Nat.le_refl _) c2 (Nat.le_refl _) (by omega) (by decide) (by decide) (by simp) ?_ awk_ok
  intro b hb i hi
  rw [List.mem_singleton.1 hb] at hi
  rw [List.mem_singleton.1 hi]
  exact Nat.zero_le _
set_option maxRecDepth 100000 in
set_option maxHeartbeats 2000000 in
theorem awake_any (w : World) : Calls Try.prog 10 #[] w fun e w' => e = .returned (.bool true) ∧ Below w.heap.size w w' := by
  go_enter Try.func10, Try.ntmps10
  have HCON := Aside0.mk (codegen_Constant.calls 10 3 131072 _ w const_awake)
  go_wp2_with fail
  refine HCON.out.mono ?_
  rintro e w2 ⟨vl, rfl, hRl, hb2⟩
  obtain ⟨Al, cl, hv⟩ := Kd.R_slice hRl
  subst hv
  have HRL := Aside0.mk hRl
  have HB2 := Aside0.mk hb2
  clear hRl hb2
  go_wp2_with fail
  refine (awk_task w2).mono ?_
  rintro e w3 ⟨st, places, slots, vc, vr, _, _, rfl, hC, hR, hb3, hG, hl, hl2, hV⟩
  obtain ⟨Ac, cc, rfl⟩ := Kd.R_slice hC
  obtain ⟨Ar, cr, rfl⟩ := Kd.R_slice hR
  obtain ⟨d, hd⟩ : ∃ d, layA [] ([] : List S44).length + slots = d := ⟨_, rfl⟩
  rw [hd] at hV
  rw [hd]
  obtain ⟨_, hcc, hCC⟩ := Kd.R_reads' hC
  obtain ⟨_, hcr, hCR⟩ := Kd.R_reads' hR
  have HB3 := Aside0.mk (below_step (below_alloc (below_alloc HB2.out _) _) hb3)
  have hl0 := patch_len hG
  have hok := fun W (hB : Below w3.heap.size w3 W) => cgValid_any ⟨#[102]⟩ Ac cc (patchAll st) d Ar cr st.refs W (Kd.C_below hCC hB) hcc (Kd.C_below hCR hB) hcr (by omega) (by omega) (patch_ops hG)
  rw [hV] at hok
  have HOK := Aside0.mk hok; clear hok
  generalize (patchAll st).length = n1 at *
  generalize st.refs.length = n2 at *
  obtain ⟨g, cells, hAl, hg⟩ := code_addr HRL.out (by decide)
  subst hAl
  obtain ⟨_, _, hCL⟩ := Kd.R_reads' HRL.out
  obtain ⟨ad, hA, a0, a1, a2, a3, a4⟩ := at_T53 hCL 0 (by decide) (by decide)
  obtain ⟨ad', hA', b0, b1, b2, b3, b4⟩ := at_T53 hCL 2 (by decide) (by decide)
  cases hA; cases hA'
  have hgl := blk_lt hg
  have hb23 : Below w2.heap.size w2 w3 := below_step (below_alloc (below_alloc (Below.refl _ _) _) _) hb3
  have hz3 := hb23.size
  have mv : ∀ i v, w2.cell? ⟨g, i, none⟩ = some v → w3.cell? ⟨g, i, none⟩ = some v := fun i v h => (hb23.cell hgl).trans h
  replace a0 : w3.cell? ⟨g, 0, none⟩ = some (.int .u8 14) := mv _ _ a0
  replace a1 : w3.cell? ⟨g, 1, none⟩ = some (.int .i64 3) := mv _ _ a1
  replace a2 : w3.cell? ⟨g, 2, none⟩ = some (.int .i64 0) := mv _ _ a2
  replace a3 : w3.cell? ⟨g, 3, none⟩ = some (.int .i64 0) := mv _ _ a3
  replace a4 : w3.cell? ⟨g, 4, none⟩ = some (.int .i64 8) := mv _ _ a4
  replace b0 : w3.cell? ⟨g, 10, none⟩ = some (.int .u8 17) := mv _ _ b0
  replace b1 : w3.cell? ⟨g, 11, none⟩ = some (.int .i64 3) := mv _ _ b1
  replace b2 : w3.cell? ⟨g, 12, none⟩ = some (.int .i64 3) := mv _ _ b2
  replace b3 : w3.cell? ⟨g, 13, none⟩ = some (.int .i64 0) := mv _ _ b3
  replace b4 : w3.cell? ⟨g, 14, none⟩ = some (.int .i64 0) := mv _ _ b4
  have hg3 : g < w3.heap.size := by omega
  clear hb3 hC hR hCC hCR hCL hg mv hG hV hb23 hl0 hl hl2 hcc hcr hz3 hgl hd
  go_wp2_with fail
  refine (HOK.out _ (below_alloc (Below.refl _ _) _)).mono ?_
  rintro e w4 ⟨rfl, hb4⟩
  have HB4 := Aside0.mk (below_step (below_alloc HB3.out _) hb4)
  go_wp2
  go_ret
  exact ⟨rfl, HB4.out⟩
end Go.Proofs.Ytadaopfcgpfiiaa
namespace Go.Proofs.Ytadaopfcgpfiiaa
open Go.RowKit Go.Proofs.YtadaopfcgpfiiaaW.PrintWords Go.Proofs.YtadaopfcgpfiiaaW.PrintLast Go.Proofs.YtadaopfcgpfiiaaW.PrintMore PCg
open Go.ChangeShapes Go.WideShapes Go.ChangeAt
set_option linter.unusedVariables false
set_option linter.unusedSimpArgs false
theorem fld1 {H : Type} {enc : TypeId × Value → H} {P : Program} {w : World} {base : Nat} {sp : Nat → Bool} {held : Bool} {fs : Array Field} {xs : List (DataW H × List MemPlace)} {n : Nat} {cs : List Value}
    (hf : ∀ (i : Nat) (f : Field), fs[i]? = some f → DataW.trod enc P w base sp held n f.type ((cs.drop f.offset).take (P.cellsOf f.type)) = xs[i]?) (hlen : xs.length = fs.size)
    (i : Nat) (f : Field) (hi : fs[i]? = some f) (h1 : P.cellsOf f.type = 1) (c : Value) (hc : cs[f.offset]? = some c) : ∃ y, DataW.trod enc P w base sp held n f.type [c] = some y := by
  have h := hf i f hi
  have hlt : i < fs.size := by
    rcases Nat.lt_or_ge i fs.size with h | h
    · exact h
    · rw [Array.getElem?_eq_none h] at hi; cases hi
  rw [h1, List.getElem?_eq_getElem (by omega)] at h
  obtain ⟨hcl, hce⟩ := List.getElem?_eq_some_iff.1 hc
  rw [List.drop_eq_getElem_cons hcl, hce] at h
  exact ⟨_, h⟩
/-- cells of a type read as a value of a kind -/
structure TR {α : Type} (K : Kd α) (good : α → Prop) (t : TypeId) : Prop where
  sz : Try.prog.cellsOf t = K.sz
  get : ∀ {H : Type} {enc : TypeId × Value → H} {w : World} {base : Nat} {sp : Nat → Bool} {held : Bool} {fuel : Nat} {cs : List Value} {x : DataW H × List MemPlace},
    DataW.trod enc Try.prog w base sp held fuel t cs = some x → ∃ a, K.K w a cs ∧ good a
theorem TR.slice {α : Type} [Inhabited α] {K : Kd α} {good : α → Prop} {t s : TypeId} (h : TR K good t) (hs : Try.prog.underlying s = some (.slice t)) {H : Type} {enc : TypeId × Value → H} {w : World} {base : Nat} {sp : Nat → Bool} {held : Bool} {fuel : Nat} {cs : List Value} {x : DataW H × List MemPlace}
    (hx : DataW.trod enc Try.prog w base sp held fuel s cs = some x) : ∃ (A : Option Addr) (c : Nat) (xs : List α), cs = [.slice A xs.length c] ∧ xs.length ≤ c ∧ c ≤ maxLen ∧ Kd.C K w A xs.length xs ∧ ∀ a ∈ xs, good a := by
  rcases Deep.open_slice hs hx with ⟨rfl, _⟩ | ⟨a, len, cap, m, n, D, Pl, rfl, hb, hl, hm, hmm, _, hel⟩
  · exact ⟨none, 0, [], rfl, Nat.le_refl _, Nat.zero_le _, ⟨rfl, by simp, by simp⟩, by simp⟩
  · have hlm : len ≤ m := by rw [hmm]; split <;> omega
    have h1 : ∀ i, i < len → ∃ y : α × List Value, K.K w y.1 y.2 ∧ good y.1 ∧ w.cells? base (a.add (i * Try.prog.cellsOf t)) (Try.prog.cellsOf t) = some y.2 := fun i hi => by
      obtain ⟨cs', hc, ht⟩ := hel i (by omega)
      obtain ⟨y, hK, hg⟩ := h.get ht
      exact ⟨(y, cs'), hK, hg, hc⟩
    obtain ⟨F, hF⟩ := Deep.choose_lt h1
    have hmx : maxLen ≤ 9223372036854775807 := by decide
    refine ⟨some a, cap, (List.range len).map (fun i => (F i).1), by simp, by simpa using hl, hm, ⟨by simp, by simp; omega, fun _ => ⟨a, rfl, fun j p hj => ?_⟩⟩, fun y hy => ?_⟩
    · simp only [List.getElem?_map] at hj
      obtain ⟨i, hi, rfl⟩ := Option.map_eq_some_iff.1 hj
      obtain ⟨hjl, hji⟩ := List.getElem?_eq_some_iff.1 hi
      simp at hjl hji
      subst hji
      obtain ⟨hK, _, hc⟩ := hF j hjl
      refine ⟨(F j).2, K.K_len hK, hK, fun q u hu => ?_⟩
      obtain ⟨_, hl2, hcell⟩ := World.cells?_some hc
      have hq : q < Try.prog.cellsOf t := by
        have := (List.getElem?_eq_some_iff.1 hu).1
        omega
      have := hcell q hq
      rw [Deep.add_add, h.sz] at this
      rw [this]
      exact hu
    · obtain ⟨i, hi, rfl⟩ := List.mem_map.1 hy
      exact (hF i (List.mem_range.1 hi)).2.1
instance : Inhabited S44 := ⟨z44⟩
instance : Inhabited S51 := ⟨z51⟩
instance : Inhabited S49 := ⟨z49⟩
instance : Inhabited S105 := ⟨z105⟩
instance : Inhabited S53 := ⟨z53⟩
def gArr (a : S44) : Prop := a.f0.size ≤ maxLen ∧ (Lit.int .i64 a.f1).wf = true
def gIns (a : S51) : Prop := a.f5.size ≤ maxLen
def gBlk (a : S49) : Prop := a.f0.length ≤ maxLen ∧ ∀ i ∈ a.f0, gIns i
def gInstr (a : S53) : Prop := 0 ≤ a.f0 ∧ a.f0 < 256
theorem u8_in {n : Int} (h : (Lit.int .u8 n).wf = true) : 0 ≤ n ∧ n < 256 := by
  have : 0 ≤ n ∧ n ≤ 255 := by simpa [Lit.wf, IntKind.min, IntKind.max, IntKind.signed, IntKind.bits] using h
  omega
set_option maxRecDepth 100000 in
theorem tr_Arr : TR k44 gArr 44 := ⟨by kernel_rfl, fun {H enc w base sp held fuel cs x} h => by
  obtain ⟨xs, n, _, rfl, hl, hlen, hf⟩ := DataW.trod_struct Try.underlying44 h
  have hl' : cs.length = 2 := hl.trans (by kernel_rfl)
  match cs, hl' with
  | [c0, c1], _ =>
    obtain ⟨y0, g0⟩ := fld1 hf hlen 0 _ rfl (by kernel_rfl) _ rfl
    obtain ⟨y1, g1⟩ := fld1 hf hlen 1 _ rfl (by kernel_rfl) _ rfl
    obtain ⟨s0, e0, _, b0⟩ := DataW.trod_string Try.underlying9 g0
    obtain ⟨s1, e1, _, b1⟩ := DataW.trod_int Try.underlying3 g1
    cases e0; cases e1
    exact ⟨⟨s0, s1⟩, k44_mk w ⟨s0, s1⟩, b0, b1⟩⟩
set_option maxRecDepth 100000 in
theorem tr_Ins : TR k51 gIns 51 := ⟨by kernel_rfl, fun {H enc w base sp held fuel cs x} h => by
  obtain ⟨xs, n, _, rfl, hl, hlen, hf⟩ := DataW.trod_struct Try.underlying51 h
  have hl' : cs.length = 6 := hl.trans (by kernel_rfl)
  match cs, hl' with
  | [c0, c1, c2, c3, c4, c5], _ =>
    obtain ⟨y0, g0⟩ := fld1 hf hlen 0 _ rfl (by kernel_rfl) _ rfl
    obtain ⟨y1, g1⟩ := fld1 hf hlen 1 _ rfl (by kernel_rfl) _ rfl
    obtain ⟨y2, g2⟩ := fld1 hf hlen 2 _ rfl (by kernel_rfl) _ rfl
    obtain ⟨y3, g3⟩ := fld1 hf hlen 3 _ rfl (by kernel_rfl) _ rfl
    obtain ⟨y4, g4⟩ := fld1 hf hlen 4 _ rfl (by kernel_rfl) _ rfl
    obtain ⟨y5, g5⟩ := fld1 hf hlen 5 _ rfl (by kernel_rfl) _ rfl
    obtain ⟨s0, e0, _, b0⟩ := DataW.trod_int Try.underlying5 g0
    obtain ⟨s1, e1, _, b1⟩ := DataW.trod_int Try.underlying3 g1
    obtain ⟨s2, e2, _, b2⟩ := DataW.trod_int Try.underlying3 g2
    obtain ⟨s3, e3, _, b3⟩ := DataW.trod_int Try.underlying3 g3
    obtain ⟨s4, e4, _, b4⟩ := DataW.trod_int Try.underlying3 g4
    obtain ⟨s5, e5, _, b5⟩ := DataW.trod_string Try.underlying9 g5
    cases e0; cases e1; cases e2; cases e3; cases e4; cases e5
    exact ⟨⟨s0, s1, s2, s3, s4, s5⟩, k51_mk w ⟨s0, s1, s2, s3, s4, s5⟩, b5⟩⟩
set_option maxRecDepth 100000 in
theorem tr_Instr : TR k53 gInstr 53 := ⟨by kernel_rfl, fun {H enc w base sp held fuel cs x} h => by
  obtain ⟨xs, n, _, rfl, hl, hlen, hf⟩ := DataW.trod_struct Try.underlying53 h
  have hl' : cs.length = 5 := hl.trans (by kernel_rfl)
  match cs, hl' with
  | [c0, c1, c2, c3, c4], _ =>
    obtain ⟨y0, g0⟩ := fld1 hf hlen 0 _ rfl (by kernel_rfl) _ rfl
    obtain ⟨y1, g1⟩ := fld1 hf hlen 1 _ rfl (by kernel_rfl) _ rfl
    obtain ⟨y2, g2⟩ := fld1 hf hlen 2 _ rfl (by kernel_rfl) _ rfl
    obtain ⟨y3, g3⟩ := fld1 hf hlen 3 _ rfl (by kernel_rfl) _ rfl
    obtain ⟨y4, g4⟩ := fld1 hf hlen 4 _ rfl (by kernel_rfl) _ rfl
    obtain ⟨s0, e0, _, b0⟩ := DataW.trod_int Try.underlying5 g0
    obtain ⟨s1, e1, _, b1⟩ := DataW.trod_int Try.underlying3 g1
    obtain ⟨s2, e2, _, b2⟩ := DataW.trod_int Try.underlying3 g2
    obtain ⟨s3, e3, _, b3⟩ := DataW.trod_int Try.underlying3 g3
    obtain ⟨s4, e4, _, b4⟩ := DataW.trod_int Try.underlying3 g4
    cases e0; cases e1; cases e2; cases e3; cases e4
    exact ⟨⟨s0, s1, s2, s3, s4⟩, k53_mk w ⟨s0, s1, s2, s3, s4⟩, u8_in b0⟩⟩
set_option maxRecDepth 100000 in
theorem tr_Ref : TR k105 (fun _ => True) 105 := ⟨by kernel_rfl, fun {H enc w base sp held fuel cs x} h => by
  obtain ⟨xs, n, _, rfl, hl, hlen, hf⟩ := DataW.trod_struct Try.underlying105 h
  have hl' : cs.length = 3 := hl.trans (by kernel_rfl)
  match cs, hl' with
  | [c0, c1, c2], _ =>
    obtain ⟨y0, g0⟩ := fld1 hf hlen 0 _ rfl (by kernel_rfl) _ rfl
    obtain ⟨y1, g1⟩ := fld1 hf hlen 1 _ rfl (by kernel_rfl) _ rfl
    obtain ⟨y2, g2⟩ := fld1 hf hlen 2 _ rfl (by kernel_rfl) _ rfl
    obtain ⟨s0, e0, _, b0⟩ := DataW.trod_int Try.underlying3 g0
    obtain ⟨s1, e1, _, b1⟩ := DataW.trod_string Try.underlying9 g1
    obtain ⟨s2, e2, _⟩ := DataW.trod_bool Try.underlying4 g2
    cases e0; cases e1; cases e2
    exact ⟨⟨s0, s1, s2⟩, k105_mk w ⟨s0, s1, s2⟩, trivial⟩⟩
set_option maxRecDepth 100000 in
theorem tr_Blk : TR k49 gBlk 49 := ⟨by kernel_rfl, fun {H enc w base sp held fuel cs x} h => by
  obtain ⟨xs, n, _, rfl, hl, hlen, hf⟩ := DataW.trod_struct Try.underlying49 h
  have hl' : cs.length = 5 := hl.trans (by kernel_rfl)
  match cs, hl' with
  | [c0, c1, c2, c3, c4], _ =>
    obtain ⟨y0, g0⟩ := fld1 hf hlen 0 _ rfl (by kernel_rfl) _ rfl
    obtain ⟨y1, g1⟩ := fld1 hf hlen 1 _ rfl (by kernel_rfl) _ rfl
    obtain ⟨y2, g2⟩ := fld1 hf hlen 2 _ rfl (by kernel_rfl) _ rfl
    obtain ⟨y3, g3⟩ := fld1 hf hlen 3 _ rfl (by kernel_rfl) _ rfl
    obtain ⟨y4, g4⟩ := fld1 hf hlen 4 _ rfl (by kernel_rfl) _ rfl
    obtain ⟨A, c, l, e0, hlc, hcm, hC, hg⟩ := tr_Ins.slice Try.underlying47 g0
    obtain ⟨s1, e1, _, b1⟩ := DataW.trod_int Try.underlying5 g1
    obtain ⟨s2, e2, _, b2⟩ := DataW.trod_int Try.underlying3 g2
    obtain ⟨s3, e3, _, b3⟩ := DataW.trod_int Try.underlying3 g3
    obtain ⟨s4, e4, _, b4⟩ := DataW.trod_int Try.underlying3 g4
    cases e0; cases e1; cases e2; cases e3; cases e4
    exact ⟨⟨l, s1, s2, s3, s4⟩, k49_mk w ⟨l, s1, s2, s3, s4⟩ hlc hC, by simp only [gBlk]; omega, hg⟩⟩
set_option maxRecDepth 100000 in
/-- an argument: a slice -/
theorem arg_slice {α : Type} [Inhabited α] {K : Kd α} {good : α → Prop} {t s : TypeId} (h : TR K good t) (hs : Try.prog.underlying s = some (.slice t)) {H : Type} {enc : TypeId × Value → H} {w : World} {base b0 : Nat} {sp : Nat → Bool} {held : Bool} {r : Reach} {v : Value} {d : DataW H} {p : List MemPlace}
    (hv : Value.okWide Try.prog w r b0 s v) (hx : DataW.Trod enc Try.prog w base sp held s v d p) : ∃ (A : Option Addr) (c : Nat) (xs : List α), v = .slice A xs.length c ∧ xs.length ≤ c ∧ c ≤ maxLen ∧ Kd.C K w A xs.length xs ∧ ∀ a ∈ xs, good a := by
  obtain ⟨a, len, cap, rfl⟩ := okWide_slice hs hv
  obtain ⟨fuel, hf⟩ := hx
  obtain ⟨A, c, xs, e, h1⟩ := h.slice hs hf
  simp [Value.cells] at e
  obtain ⟨rfl, rfl, rfl⟩ := e
  exact ⟨_, _, xs, rfl, h1⟩
set_option maxRecDepth 100000 in
/-- an argument: a function of the intermediate language -/
theorem arg_func {H : Type} {enc : TypeId × Value → H} {w : World} {base b0 : Nat} {sp : Nat → Bool} {held : Bool} {r : Reach} {v : Value} {d : DataW H} {p : List MemPlace}
    (hv : Value.okWide Try.prog w r b0 25 v) (hx : DataW.Trod enc Try.prog w base sp held 25 v d p) :
    ∃ (nm : ByteArray) (regs : Int) (A : Option Addr) (c : Nat) (arrs : List S44) (A3 : Option Addr) (c3 : Nat) (blks : List S49), v = .agg #[.string nm, .int .i64 regs, .slice A arrs.length c, .slice A3 blks.length c3] ∧ nm.size ≤ maxLen ∧
      (arrs.length ≤ c ∧ c ≤ maxLen ∧ Kd.C k44 w A arrs.length arrs ∧ ∀ a ∈ arrs, gArr a) ∧ blks.length ≤ c3 ∧ c3 ≤ maxLen ∧ Kd.C k49 w A3 blks.length blks ∧ ∀ a ∈ blks, gBlk a := by
  obtain ⟨cs, rfl, hsz⟩ := okWide_struct Try.underlying25 hv
  obtain ⟨fuel, h⟩ := hx
  obtain ⟨xs, n, _, _, hl, hlen, hf⟩ := DataW.trod_struct Try.underlying25 h
  have hs4 : cs.size = 4 := hsz.trans (by kernel_rfl)
  obtain ⟨c0, c1, c2, c3, rfl⟩ : ∃ c0 c1 c2 c3, cs = #[c0, c1, c2, c3] := by
    obtain ⟨l⟩ := cs
    match l, hs4 with
    | [c0, c1, c2, c3], _ => exact ⟨c0, c1, c2, c3, rfl⟩
  obtain ⟨y0, g0⟩ := fld1 hf hlen 0 _ rfl (by kernel_rfl) _ rfl
  obtain ⟨y1, g1⟩ := fld1 hf hlen 1 _ rfl (by kernel_rfl) _ rfl
  obtain ⟨y2, g2⟩ := fld1 hf hlen 2 _ rfl (by kernel_rfl) _ rfl
  obtain ⟨y3, g3⟩ := fld1 hf hlen 3 _ rfl (by kernel_rfl) _ rfl
  obtain ⟨s0, e0, _, b0⟩ := DataW.trod_string Try.underlying9 g0
  obtain ⟨s1, e1, _, b1⟩ := DataW.trod_int Try.underlying3 g1
  obtain ⟨A, c, l, e2, q2⟩ := tr_Arr.slice Try.underlying22 g2
  obtain ⟨A3, c3', l3, e3, q3⟩ := tr_Blk.slice Try.underlying23 g3
  cases e0; cases e1; cases e2; cases e3
  exact ⟨s0, s1, A, c, l, A3, c3', l3, rfl, b0, q2, q3⟩
set_option maxRecDepth 100000 in
/-- an argument: an object -/
theorem arg_obj {H : Type} {enc : TypeId × Value → H} {w : World} {base b0 : Nat} {sp : Nat → Bool} {held : Bool} {r : Reach} {v : Value} {d : DataW H} {p : List MemPlace}
    (hv : Value.okWide Try.prog w r b0 31 v) (hx : DataW.Trod enc Try.prog w base sp held 31 v d p) :
    ∃ (nm : ByteArray) (A : Option Addr) (c : Nat) (code : List S53) (data : Int) (A2 : Option Addr) (c2 : Nat) (refs : List S105), v = .agg #[.string nm, .slice A code.length c, .int .i64 data, .slice A2 refs.length c2] ∧
      (code.length ≤ c ∧ c ≤ maxLen ∧ Kd.C k53 w A code.length code ∧ ∀ a ∈ code, gInstr a) ∧ refs.length ≤ c2 ∧ c2 ≤ maxLen ∧ Kd.C k105 w A2 refs.length refs := by
  obtain ⟨cs, rfl, hsz⟩ := okWide_struct Try.underlying31 hv
  obtain ⟨fuel, h⟩ := hx
  obtain ⟨xs, n, _, _, hl, hlen, hf⟩ := DataW.trod_struct Try.underlying31 h
  have hs4 : cs.size = 4 := hsz.trans (by kernel_rfl)
  obtain ⟨c0, c1, c2, c3, rfl⟩ : ∃ c0 c1 c2 c3, cs = #[c0, c1, c2, c3] := by
    obtain ⟨l⟩ := cs
    match l, hs4 with
    | [c0, c1, c2, c3], _ => exact ⟨c0, c1, c2, c3, rfl⟩
  obtain ⟨y0, g0⟩ := fld1 hf hlen 0 _ rfl (by kernel_rfl) _ rfl
  obtain ⟨y1, g1⟩ := fld1 hf hlen 1 _ rfl (by kernel_rfl) _ rfl
  obtain ⟨y2, g2⟩ := fld1 hf hlen 2 _ rfl (by kernel_rfl) _ rfl
  obtain ⟨y3, g3⟩ := fld1 hf hlen 3 _ rfl (by kernel_rfl) _ rfl
  obtain ⟨s0, e0, _, b0⟩ := DataW.trod_string Try.underlying9 g0
  obtain ⟨A, c, l, e1, q1⟩ := tr_Instr.slice Try.underlying28 g1
  obtain ⟨s2, e2, _, b2⟩ := DataW.trod_int Try.underlying3 g2
  obtain ⟨A3, c3', l3, e3, h1, h2, h3, _⟩ := tr_Ref.slice Try.underlying29 g3
  cases e0; cases e1; cases e2; cases e3
  exact ⟨s0, A, c, l, s2, A3, c3', l3, rfl, q1, h1, h2, h3⟩
end Go.Proofs.Ytadaopfcgpfiiaa
namespace Go.Proofs.Ytadaopfcgpfiiaa
open Go.RowKit Go.Proofs.YtadaopfcgpfiiaaW.PrintWords Go.Proofs.YtadaopfcgpfiiaaW.PrintLast Go.Proofs.YtadaopfcgpfiiaaW.PrintMore PCg
set_option linter.unusedVariables false
set_option linter.unusedSimpArgs false
/-- within the bounds of the statements -/
def Small (regs : Int) (arrs : List S44) (blks : List S49) : Prop := blks.length ≤ 20 ∧ regs ≤ 60 ∧ arrs.length ≤ 8 ∧ (blks.map (fun b => b.f0.length)).sum ≤ 300 ∧ ∀ b ∈ blks, b.f0.length ≤ 30
theorem small_go (nm : ByteArray) (regs : Int) (arrs : List S44) (blks : List S49) (hl : blks.length ≤ 20) : ∀ n j fuel : Nat, j + n = blks.length → n < fuel → sumTo blks j ≤ 300 → (∀ q : Nat, q < j → (rd_T49 blks q).f0.length ≤ 30) →
    ontimelaw21_small.l0 fuel (sumTo blks j : Nat) (j : Int) nm regs arrs blks = some 0 ∨ (ontimelaw21_small.l0 fuel (sumTo blks j : Nat) (j : Int) nm regs arrs blks = some 1 ∧ sumTo blks blks.length ≤ 300 ∧ ∀ q : Nat, q < blks.length → (rd_T49 blks q).f0.length ≤ 30) := by
  intro n
  induction n with
  | zero =>
    intro j fuel hj hf hs hq
    obtain ⟨f, rfl⟩ : ∃ f, fuel = f + 1 := ⟨fuel - 1, by omega⟩
    have e : j = blks.length := by omega
    subst e
    right
    refine ⟨?_, hs, hq⟩
    unfold ontimelaw21_small.l0
    rw [if_neg (by omega)]
  | succ n ih =>
    intro j fuel hj hf hs hq
    obtain ⟨f, rfl⟩ : ∃ f, fuel = f + 1 := ⟨fuel - 1, by omega⟩
    unfold ontimelaw21_small.l0
    rw [if_pos (by omega), if_pos (by omega)]
    by_cases h1 : ((rd_T49 blks (j : Int)).f0.length : Int) > 30
    · rw [if_pos h1]; exact .inl rfl
    · rw [if_neg h1]
      have hsw : wrap64 (((sumTo blks j : Nat) : Int) + ((rd_T49 blks (j : Int)).f0.length : Int)) = ((sumTo blks (j + 1) : Nat) : Int) := by
        rw [w64 (by omega), sumTo]; omega
      rw [hsw]
      by_cases h2 : ((sumTo blks (j + 1) : Nat) : Int) > 300
      · rw [if_pos h2]; exact .inl rfl
      · rw [if_neg h2, w64 (by omega), show (j : Int) + 1 = ((j + 1 : Nat) : Int) by omega]
        exact ih (j + 1) f (by omega) (by omega) (by omega) (fun q hq' => by
          by_cases e : q < j
          · exact hq q e
          · have : q = j := by omega
            subst this
            omega)
theorem small_f (nm : ByteArray) (regs : Int) (arrs : List S44) (blks : List S49) : ontimelaw21_small.f 100 nm regs arrs blks = some 0 ∨ (ontimelaw21_small.f 100 nm regs arrs blks = some 1 ∧ Small regs arrs blks) := by
  unfold ontimelaw21_small.f
  by_cases h1 : (blks.length : Int) > 20
  · rw [if_pos h1]; left; rfl
  · rw [if_neg h1]
    by_cases h2 : regs > 60
    · rw [if_pos h2]; left; rfl
    · rw [if_neg h2]
      by_cases h3 : (arrs.length : Int) > 8
      · rw [decide_eq_true h3]; left; rfl
      · rw [decide_eq_false h3]
        have e : ontimelaw21_small.j0 100 false nm regs arrs blks = ontimelaw21_small.l0 99 ((sumTo blks 0 : Nat) : Int) ((0 : Nat) : Int) nm regs arrs blks := by
          unfold ontimelaw21_small.j0
          rfl
        rw [e]
        rcases small_go nm regs arrs blks (by omega) blks.length 0 99 (by omega) (by omega) (by simp [sumTo]) (fun q hq => by omega) with h | ⟨h, hs, hq⟩
        · exact .inl h
        · refine .inr ⟨h, by omega, by omega, by omega, by rw [← sumTo_eq]; exact hs, fun b hb => ?_⟩
          obtain ⟨j, hj, rfl⟩ := List.mem_iff_getElem.1 hb
          have := hq j hj
          rwa [rd_Blk_get _ _ hj] at this
theorem mentL_flat (blks : List S49) : mentL blks = (blks.flatMap (fun b => b.f0)).foldl mentI [] := by
  have h : ∀ acc : List S44, blks.foldl mentB acc = (blks.flatMap (fun b => b.f0)).foldl mentI acc := by
    induction blks with
    | nil => intro acc; rfl
    | cons b l ih => intro acc; simp only [List.foldl_cons, List.flatMap_cons, List.foldl_append]; exact ih _
  exact h []
/-- names once, and of one element -/
structure MentOk (acc : List S44) : Prop where
  one : ∀ a ∈ acc, a.f1 = 1
  dis : ∀ k : Nat, k < acc.length → shOkAt acc k = true
theorem memA_name {acc : List S44} (h : ∀ a ∈ acc, a.f1 = 1) (nm : ByteArray) : memA acc nm 1 = hasName acc nm := by
  unfold memA hasName
  induction acc with
  | nil => rfl
  | cons a l ih =>
    simp only [List.any_cons]
    rw [ih (fun b hb => h b (List.mem_cons_of_mem _ hb)), h a (List.mem_cons_self ..)]
    simp only [beq_self_eq_true, Bool.and_true]
    rw [BEq.comm (a := nm.toList)]
theorem mentI_name {acc : List S44} (h : ∀ a ∈ acc, a.f1 = 1) (i : S51) : mentI acc i = if isShr i.f0 = true then (if hasName acc i.f5 = true then acc else acc ++ [⟨i.f5, 1⟩]) else acc := by
  unfold mentI; rw [memA_name h]
theorem rd_Arr_get (l : List S44) (k : Nat) (h : k < l.length) : rd_T44 l (k : Int) = l[k] := by
  simp only [rd_T44, List.getD_eq_getElem?_getD, Int.toNat_natCast, List.getElem?_eq_getElem h, Option.getD_some]
theorem MentOk.step {acc : List S44} (h : MentOk acc) (i : S51) : MentOk (mentI acc i) := by
  rw [mentI_name h.one]
  split
  · split
    · exact h
    · rename_i hn
      refine ⟨fun a ha => ?_, fun k hk => ?_⟩
      · rcases List.mem_append.1 ha with ha | ha
        · exact h.one a ha
        · rw [List.mem_singleton.1 ha]
      · simp only [List.length_append, List.length_cons, List.length_nil] at hk
        by_cases e : k < acc.length
        · have h1 := h.dis k e
          simp only [shOkAt, Int.toNat_natCast] at h1 ⊢
          rw [rd_Arr_get _ _ e] at h1
          rw [rd_Arr_get _ _ (by simp; omega), List.getElem_append_left e, List.take_append_of_le_length (by omega)]
          exact h1
        · obtain rfl : k = acc.length := by omega
          simp only [shOkAt, Int.toNat_natCast]
          rw [rd_Arr_get _ _ (by simp), List.take_left']
          · simpa using hn
          · rfl
  · exact h
theorem hasName_append (a b : List S44) (nm : ByteArray) : hasName (a ++ b) nm = (hasName a nm || hasName b nm) := by simp [hasName]
theorem hasName_step {acc : List S44} (i : S51) {nm : ByteArray} (hn : hasName acc nm = true) : hasName (mentI acc i) nm = true := by
  unfold mentI
  split
  · split
    · exact hn
    · rw [hasName_append, hn]; rfl
  · exact hn
theorem ment_fold (l : List S51) : ∀ acc : List S44, MentOk acc → MentOk (l.foldl mentI acc) ∧ (∀ nm, hasName acc nm = true → hasName (l.foldl mentI acc) nm = true) ∧ (∀ i ∈ l, isShr i.f0 = true → hasName (l.foldl mentI acc) i.f5 = true) ∧
    ∀ a ∈ l.foldl mentI acc, a ∈ acc ∨ ∃ i ∈ l, isShr i.f0 = true ∧ a.f0 = i.f5 := by
  induction l with
  | nil => intro acc h; exact ⟨h, fun _ h => h, by simp, fun a ha => .inl ha⟩
  | cons i l ih =>
    intro acc h
    obtain ⟨h1, h2, h3, h4⟩ := ih _ (h.step i)
    simp only [List.foldl_cons]
    refine ⟨h1, fun nm hn => h2 nm (hasName_step i hn), fun j hj hs => ?_, fun a ha => ?_⟩
    · rcases List.mem_cons.1 hj with rfl | hj
      · refine h2 _ ?_
        rw [mentI_name h.one, if_pos hs]
        split
        · assumption
        · rw [hasName_append]; simp [hasName]
      · exact h3 j hj hs
    · rcases h4 a ha with ha | ⟨j, hj, e⟩
      · rw [mentI_name h.one] at ha
        split at ha
        · rename_i hs
          split at ha
          · exact .inl ha
          · rcases List.mem_append.1 ha with ha | ha
            · exact .inl ha
            · rw [List.mem_singleton.1 ha]
              exact .inr ⟨i, List.mem_cons_self .., hs, rfl⟩
        · exact .inl ha
      · exact .inr ⟨j, List.mem_cons_of_mem _ hj, e⟩
theorem ment_ok (blks : List S49) : MentOk (mentL blks) ∧ (∀ b ∈ blks, ∀ i ∈ b.f0, isShr i.f0 = true → hasName (mentL blks) i.f5 = true) ∧ ∀ a ∈ mentL blks, ∃ b ∈ blks, ∃ i ∈ b.f0, isShr i.f0 = true ∧ a.f0 = i.f5 := by
  obtain ⟨h1, _, h3, h4⟩ := ment_fold (blks.flatMap (fun b => b.f0)) [] ⟨by simp, by simp⟩
  rw [← mentL_flat] at h1 h3 h4
  refine ⟨h1, fun b hb i hi => h3 i (List.mem_flatMap.2 ⟨b, hb, hi⟩), fun a ha => ?_⟩
  rcases h4 a ha with h | ⟨i, hi, h⟩
  · cases h
  · obtain ⟨b, hb, hi⟩ := List.mem_flatMap.1 hi
    exact ⟨b, hb, i, hi, h⟩
theorem isShr_sym (op : Int) : isShr op = true ↔ (shp op).sym = 2 := by
  by_cases h16 : op = 1 ∨ op = 2 ∨ op = 3 ∨ op = 4 ∨ op = 5 ∨ op = 6 ∨ op = 7 ∨ op = 8 ∨ op = 9 ∨ op = 10 ∨ op = 11 ∨ op = 12 ∨ op = 13 ∨ op = 14 ∨ op = 15 ∨ op = 16
  · rcases h16 with e | e | e | e | e | e | e | e | e | e | e | e | e | e | e | e <;> subst e <;> simp [isShr, shp]
  · simp only [not_or] at h16
    simp [isShr, shp, h16]
theorem hasName_iff (l : List S44) (nm : ByteArray) : hasName l nm = true ↔ ∃ a ∈ l, a.f0.toList = nm.toList := by simp [hasName]
theorem insOk_ment {regs : Int} {arrs shared ment : List S44} {i : S51} (h : insOk regs arrs shared i = true) (hm : isShr i.f0 = true → hasName ment i.f5 = true) : insOk regs arrs ment i = true := by
  unfold insOk at h ⊢
  simp only [Bool.and_eq_true] at h ⊢
  refine ⟨h.1, ?_⟩
  have h2 := h.2
  unfold symOk at h2 ⊢
  split
  · rename_i e; rw [if_pos e] at h2; exact h2
  · rename_i e1
    split
    · rename_i e2; exact hm ((isShr_sym _).2 e2)
    · rename_i e2; rw [if_neg e1, if_neg e2] at h2; exact h2
/-- valid with some shared objects: valid with those that it mentions -/
theorem irOk_ment {regs : Int} {arrs : List S44} {blks : List S49} {shared : List S44} (h : irOk regs arrs blks shared = true) : irOk regs arrs blks (mentL blks) = true := by
  obtain ⟨f1, f2, f3, f4, f5, f6, f7⟩ := irOk_facts h
  obtain ⟨m1, m2, m3⟩ := ment_ok blks
  have hins : ∀ b ∈ blks, ∀ i ∈ b.f0, insOk regs arrs shared i = true := fun b hb i hi => by
    obtain ⟨j, hj, rfl⟩ := List.mem_iff_getElem.1 hb
    have := f7 j hj
    rw [rd_Blk_get _ _ hj] at this
    simp only [blkOk, Bool.and_eq_true, List.all_eq_true] at this
    exact this.2 i hi
  unfold irOk
  simp only [Bool.and_eq_true, decide_eq_true_eq]
  refine ⟨⟨⟨⟨⟨⟨f1, f2⟩, f3⟩, f4⟩, ?_⟩, ?_⟩, ?_⟩
  · refine allTo_true fun j h0 h1 => ?_
    have := f5 j.toNat (by omega)
    rw [show ((j.toNat : Nat) : Int) = j by omega] at this
    simp only [arrOkAt, Bool.and_eq_true] at this ⊢
    refine ⟨this.1, ?_⟩
    have h2 := this.2
    simp only [Bool.not_eq_true'] at h2 ⊢
    rw [Bool.eq_false_iff]
    intro hn
    obtain ⟨a, ha, e⟩ := (hasName_iff _ _).1 hn
    obtain ⟨b, hb, i, hi, hs, e2⟩ := m3 a ha
    have hi2 := hins b hb i hi
    unfold insOk symOk at hi2
    simp only [Bool.and_eq_true] at hi2
    have h3 := hi2.2
    rw [if_neg (by rw [(isShr_sym _).1 hs]; omega), if_pos ((isShr_sym _).1 hs)] at h3
    obtain ⟨c, hc, e3⟩ := (hasName_iff _ _).1 h3
    rw [Bool.eq_false_iff] at h2
    exact h2 ((hasName_iff _ _).2 ⟨c, hc, by rw [e3, ← e2, e]⟩)
  · refine allTo_true fun j h0 h1 => ?_
    have := m1.dis j.toNat (by omega)
    rwa [show ((j.toNat : Nat) : Int) = j by omega] at this
  · refine allTo_true fun j h0 h1 => ?_
    have := f7 j.toNat (by omega)
    rw [show ((j.toNat : Nat) : Int) = j by omega] at this
    simp only [blkOk, Bool.and_eq_true, List.all_eq_true] at this ⊢
    refine ⟨this.1, fun i hi => insOk_ment (this.2 i hi) (fun hs => ?_)⟩
    have hb : rd_T49 blks j ∈ blks := by
      rw [show j = ((j.toNat : Nat) : Int) by omega, rd_Blk_get _ _ (by omega)]
      exact List.getElem_mem _
    exact m2 _ hb i hi hs
end Go.Proofs.Ytadaopfcgpfiiaa
namespace Go.Proofs.Ytadaopfcgpfiiaa
open Go.RowKit Go.Proofs.YtadaopfcgpfiiaaW.PrintWords Go.Proofs.YtadaopfcgpfiiaaW.PrintLast Go.Proofs.YtadaopfcgpfiiaaW.PrintMore PCg
set_option linter.unusedVariables false
set_option linter.unusedSimpArgs false
/-- the opcodes that are counted -/
def Five (op : Int) : Prop := op = 1 ∨ op = 26 ∨ op = 27 ∨ op = 28 ∨ op = 29
def cntOp (op : Int) (l : List S53) : Nat := (l.map (fun x => x.f0)).count op
theorem cntOp_append (op : Int) (a b : List S53) : cntOp op (a ++ b) = cntOp op a + cntOp op b := by simp [cntOp]
theorem cntOp_one (op : Int) (x : S53) : cntOp op [x] = if x.f0 = op then 1 else 0 := by
  simp only [cntOp, List.map_cons, List.map_nil, List.count_cons, List.count_nil, Nat.zero_add, beq_iff_eq]
/-- none of the five -/
def nf (l : List S53) : Prop := ∀ x ∈ l, 2 ≤ x.f0 ∧ x.f0 ≤ 25
theorem cntOp_nf {op : Int} (ho : Five op) {l : List S53} (h : nf l) : cntOp op l = 0 := by
  unfold cntOp
  rw [List.count_eq_zero]
  intro hm
  obtain ⟨x, hx, e⟩ := List.mem_map.1 hm
  have := h x hx
  unfold Five at ho
  omega
theorem nf_use (sp : Int) (p : Int × Int) (into : Int) : nf (useCode sp p into) := by
  unfold useCode; intro x hx
  split at hx
  · cases hx
  · rw [List.mem_singleton.1 hx]; exact ⟨by simp, by simp⟩
theorem nf_store (sp : Int) (p : Int × Int) : nf (storeCode sp p) := by
  unfold storeCode; intro x hx
  split at hx
  · cases hx
  · rw [List.mem_singleton.1 hx]; exact ⟨by simp, by simp⟩
theorem nf_const (d n : Int) : nf (constCode d n) := by
  unfold constCode; intro x hx
  repeat' split at hx
  all_goals simp only [List.mem_cons, List.not_mem_nil, or_false] at hx
  · subst hx; exact ⟨by simp, by simp⟩
  · rcases hx with rfl | rfl | rfl <;> exact ⟨by simp, by simp⟩
theorem nf_bin {op d x y : Int} (h0 : 6 ≤ op) (h1 : op ≤ 23) : nf (binCode op d x y) := by
  unfold binCode; intro z hx
  repeat' split at hx
  all_goals simp only [List.mem_cons, List.not_mem_nil, or_false] at hx
  all_goals first
    | (rcases hx with rfl | rfl | rfl | rfl <;> exact ⟨by dsimp only; omega, by dsimp only; omega⟩)
    | (rcases hx with rfl | rfl | rfl <;> exact ⟨by dsimp only; omega, by dsimp only; omega⟩)
    | (rcases hx with rfl | rfl <;> exact ⟨by dsimp only; omega, by dsimp only; omega⟩)
    | (subst hx; exact ⟨by dsimp only; omega, by dsimp only; omega⟩)
/-- the opcode that an instruction is counted as -/
def opOf (i : S51) : Option Int := if i.f0 = 11 then some 28 else if i.f0 = 12 then some 29 else if i.f0 = 9 then some 26 else if i.f0 = 10 then some 27 else none
theorem genIns_cnt {op : Int} (ho : Five op) {regs : Int} {arrs shared : List S44} {i : S51} (h : insOk regs arrs shared i = true) (pl : List (Int × Int)) (sp : Int) (m : ByteArray → Int) (st : GSt) :
    cntOp op (genIns sp pl m st i).code = cntOp op st.code + (if opOf i = some op then 1 else 0) := by
  have u := fun p into => cntOp_nf ho (nf_use sp p into)
  have s := fun p => cntOp_nf ho (nf_store sp p)
  have c := fun d n => cntOp_nf ho (nf_const d n)
  have o : ∀ {x : S53}, 2 ≤ x.f0 ∧ x.f0 ≤ 25 → cntOp op [x] = 0 := fun {x} hx => cntOp_nf ho (fun y hy => by rw [List.mem_singleton.1 hy]; exact hx)
  rcases insOk_cases h with ⟨e, h1, h4⟩ | ⟨e, h1, h2⟩ | ⟨e, h1, h2, h3, h4⟩ | ⟨e, h1, h2⟩ | ⟨e, h2, h3⟩ | ⟨e, h1, h2⟩ | ⟨e, h2, h3⟩ | ⟨e, h2, h4⟩ | ⟨e, h1, h4⟩ | ⟨e, h2, h4⟩ | e | e | ⟨e, h4⟩ | ⟨e, h4⟩ | ⟨e, h1, h4⟩ | ⟨e, h2, h4⟩
  all_goals simp only [genIns, genDef, genDef1, opOf, e, if_true, reduceIte, Int.reduceEq, if_false, GSt.emit, GSt.refer, cntOp_append, u, s, c, Nat.add_zero, reduceCtorEq, Option.some.injEq]
  · rw [o ⟨by simp, by simp⟩]; omega
  · rw [cntOp_nf ho (nf_bin h4.1 h4.2)]; omega
  · rw [o ⟨by simp, by simp⟩]; omega
  · rw [o ⟨by simp, by simp⟩]; omega
  · rw [o ⟨by simp, by simp⟩]; omega
  · rw [o ⟨by simp, by simp⟩]; omega
  · rw [o ⟨by simp, by simp⟩]; omega
  · rw [cntOp_one]
  · rw [cntOp_one, Nat.zero_add]
  · rw [cntOp_one]
  · rw [cntOp_one]
  · rw [o ⟨by simp, by simp⟩]; rfl
  · rw [o ⟨by simp, by simp⟩]; rfl
  · rw [o ⟨by simp, by simp⟩]; rfl
  · rw [o ⟨by simp, by simp⟩]; rfl
/-- what a block's counts are -/
def expB (b : S49) : List Int := (if b.f1 = 3 then [1] else []) ++ b.f0.filterMap opOf
theorem genCode_cnt {op : Int} (ho : Five op) {regs : Int} {arrs shared : List S44} (pl : List (Int × Int)) (sp : Int) (m : ByteArray → Int) (l : List S51) (h : ∀ i ∈ l, insOk regs arrs shared i = true) : ∀ st : GSt,
    cntOp op (genCode sp pl m st l).code = cntOp op st.code + (l.filterMap opOf).count op := by
  induction l with
  | nil => intro st; simp [genCode]
  | cons i l ih =>
    intro st
    have h1 := genIns_cnt ho (h i (List.mem_cons_self ..)) pl sp m st
    have h2 := ih (fun j hj => h j (List.mem_cons_of_mem _ hj)) (genIns sp pl m st i)
    simp only [genCode, List.foldl_cons] at h2 ⊢
    rw [h2, h1, List.filterMap_cons]
    cases hq : opOf i with
    | none => simp
    | some q =>
      simp only [List.count_cons, Option.some.injEq, beq_iff_eq]
      omega
theorem genBlk_cnt {op : Int} (ho : Five op) {nb regs : Int} {arrs shared : List S44} (pl : List (Int × Int)) (sp : Int) (m : ByteArray → Int) (st : GSt) (k : Int) (b : S49) (hb : blkOk regs nb arrs shared b = true) :
    cntOp op (genBlk sp pl m st k b).code = cntOp op st.code + (expB b).count op := by
  simp only [blkOk, Bool.and_eq_true, List.all_eq_true] at hb
  have h1 := genCode_cnt ho pl sp m b.f0 hb.2 st.start
  have o : ∀ {x : S53}, 2 ≤ x.f0 ∧ x.f0 ≤ 25 → cntOp op [x] = 0 := fun {x} hx => cntOp_nf ho (fun y hy => by rw [List.mem_singleton.1 hy]; exact hx)
  have u := fun p into => cntOp_nf ho (nf_use sp p into)
  change _ = cntOp op st.code + _ at h1
  unfold genBlk expB
  simp only
  generalize genCode sp pl m st.start b.f0 = st2 at *
  split
  · rename_i e
    simp only [GSt.emit, cntOp_append, cntOp_one, h1, List.count_append, List.count_cons, List.count_nil, beq_iff_eq, Nat.zero_add]
    omega
  · simp only [List.nil_append]
    split
    · split
      · simp only [GSt.emit, GSt.leap, cntOp_append, u, h1]; rw [o ⟨by simp, by simp⟩]; rfl
      · simp only [GSt.emit, GSt.leap, cntOp_append, u, h1]; rw [o ⟨by simp, by simp⟩, o ⟨by simp, by simp⟩]; rfl
    · split
      · exact h1
      · simp only [GSt.leap, cntOp_append, h1]; rw [o ⟨by simp, by simp⟩]; rfl
theorem genTo_cnt {op : Int} (ho : Five op) {regs : Int} {arrs : List S44} {blks : List S49} {shared : List S44} (h : irOk regs arrs blks shared = true) (sp : Int) (pl : List (Int × Int)) (m : ByteArray → Int) (st : GSt) (k : Nat) (hk : k ≤ blks.length) :
    cntOp op (genTo sp pl m blks st k).code = cntOp op st.code + ((blks.take k).flatMap expB).count op := by
  induction k with
  | zero => simp [genTo]
  | succ k ih =>
    rw [genTo, genBlk_cnt ho pl sp m _ _ _ ((irOk_facts h).2.2.2.2.2.2 k (by omega)), ih (by omega), List.take_add_one, List.getElem?_eq_getElem (by omega), rd_Blk_get _ _ (by omega)]
    simp only [Option.toList_some, List.flatMap_append, List.flatMap_cons, List.flatMap_nil, List.append_nil, List.count_append]
    omega
theorem genStores_cnt {op : Int} (ho : Five op) (sp : Int) (n : Nat) : cntOp op (genStores sp n) = 0 := by
  refine cntOp_nf ho (fun x hx => ?_)
  obtain ⟨s, _, rfl⟩ := List.mem_map.1 hx
  exact ⟨by simp, by simp⟩
/-- the counts in the object's code are the function's -/
theorem task_cnt {op : Int} (ho : Five op) {regs : Int} {arrs : List S44} {blks : List S49} {shared : List S44} (h : irOk regs arrs blks shared = true) {nb : Int} (addr : List Int) (size : Int) (places : List (Int × Int)) (slots : Int) (hG : GOk nb (genTask arrs addr size blks places slots)) :
    cntOp op (patchAll (genTask arrs addr size blks places slots)) = (blks.flatMap expB).count op := by
  have h1 : cntOp op (patchAll (genTask arrs addr size blks places slots)) = cntOp op (genTask arrs addr size blks places slots).code := by
    unfold cntOp; rw [patch_f0 hG]
  rw [h1, genTask, genTo_cnt ho h _ _ _ _ _ (Nat.le_refl _), List.take_length]
  simp only [genStores_cnt ho, Nat.zero_add]
/-- an opcode writes its first register -/
def wrOp (op : Int) : Bool := decide (2 ≤ op ∧ op ≤ 18) || op == 20 || op == 26
def ctr (x : S53) : Bool := (wrOp x.f0 || x.f0 == 25) && decide (10 ≤ x.f1) && decide (x.f1 ≤ 13)
/-- the instruction of a counter -/
def ctrOf (i : S51) : Option S53 := if i.f0 = 13 then some ⟨14, 10 + i.f4, 0, 0, 0⟩ else if i.f0 = 14 then some ⟨15, 10 + i.f4, 10 + i.f4, 0, 1⟩ else if i.f0 = 16 then some ⟨25, 10 + i.f2, 0, 0, i.f4⟩ else none
def noC (l : List S53) : Prop := ∀ x ∈ l, x.f1 < 10 ∨ 13 < x.f1 ∨ (wrOp x.f0 = false ∧ x.f0 ≠ 25)
theorem filter_noC {l : List S53} (h : noC l) : l.filter ctr = [] := by
  rw [List.filter_eq_nil_iff]
  intro x hx hc
  have := h x hx
  simp only [ctr, Bool.and_eq_true, Bool.or_eq_true, beq_iff_eq, decide_eq_true_eq] at hc
  rcases this with h1 | h1 | ⟨h1, h2⟩
  · omega
  · omega
  · rcases hc.1.1 with h3 | h3
    · rw [h1] at h3; cases h3
    · exact h2 h3
theorem noC_use (sp : Int) (p : Int × Int) {into : Int} (hi : 13 < into) : noC (useCode sp p into) := by
  unfold useCode; intro x hx
  split at hx
  · cases hx
  · rw [List.mem_singleton.1 hx]; exact .inr (.inl hi)
theorem noC_store (sp : Int) (p : Int × Int) : noC (storeCode sp p) := by
  unfold storeCode; intro x hx
  split at hx
  · cases hx
  · rw [List.mem_singleton.1 hx]; exact .inr (.inl (by simp))
theorem noC_const {d : Int} (hd : d < 10 ∨ 13 < d) (n : Int) : noC (constCode d n) := by
  unfold constCode; intro x hx
  repeat' split at hx
  all_goals simp only [List.mem_cons, List.not_mem_nil, or_false] at hx
  · subst hx; dsimp only; omega
  · rcases hx with rfl | rfl | rfl <;> (dsimp only; omega)
theorem noC_bin {d : Int} (hd : d < 10 ∨ 13 < d) (op x y : Int) : noC (binCode op d x y) := by
  unfold binCode; intro z hx
  repeat' split at hx
  all_goals simp only [List.mem_cons, List.not_mem_nil, or_false] at hx
  all_goals first
    | (rcases hx with rfl | rfl | rfl | rfl <;> (dsimp only; omega))
    | (rcases hx with rfl | rfl | rfl <;> (dsimp only; omega))
    | (rcases hx with rfl | rfl <;> (dsimp only; omega))
    | (subst hx; dsimp only; omega)
theorem useReg_out {regs : Int} {pl : List (Int × Int)} (h : PlOk regs pl) {v : Int} (hv : 0 ≤ v ∧ v < regs) {into : Int} (hi : 13 < into) : useReg (rdTwo pl v) into < 10 ∨ 13 < useReg (rdTwo pl v) into := by
  have := h v hv.1 hv.2
  unfold useReg
  split <;> omega
theorem genIns_ctr {regs : Int} {arrs shared : List S44} {i : S51} (h : insOk regs arrs shared i = true) {pl : List (Int × Int)} (hp : PlOk regs pl) (sp : Int) (m : ByteArray → Int) (st : GSt) :
    (genIns sp pl m st i).code.filter ctr = st.code.filter ctr ++ (ctrOf i).toList := by
  have u1 := fun p => filter_noC (noC_use sp p (into := 14) (by decide))
  have u2 := fun p => filter_noC (noC_use sp p (into := 15) (by decide))
  have s := fun p => filter_noC (noC_store sp p)
  have r1 : ∀ {v : Int}, (0 ≤ v ∧ v < regs) → useReg (rdTwo pl v) 14 < 10 ∨ 13 < useReg (rdTwo pl v) 14 := fun hv => useReg_out hp hv (by decide)
  have r2 : ∀ {v : Int}, (0 ≤ v ∧ v < regs) → useReg (rdTwo pl v) 15 < 10 ∨ 13 < useReg (rdTwo pl v) 15 := fun hv => useReg_out hp hv (by decide)
  have o : ∀ {x : S53}, (x.f1 < 10 ∨ 13 < x.f1) → [x].filter ctr = [] := fun {x} hx => filter_noC (fun y hy => by rw [List.mem_singleton.1 hy]; rcases hx with h | h; exact .inl h; exact .inr (.inl h))
  have o2 : ∀ {x : S53}, wrOp x.f0 = false → x.f0 ≠ 25 → [x].filter ctr = [] := fun {x} h1 h2 => filter_noC (fun y hy => by rw [List.mem_singleton.1 hy]; exact .inr (.inr ⟨h1, h2⟩))
  rcases insOk_cases h with ⟨e, h1, h4⟩ | ⟨e, h1, h2⟩ | ⟨e, h1, h2, h3, h4⟩ | ⟨e, h1, h2⟩ | ⟨e, h2, h3⟩ | ⟨e, h1, h2⟩ | ⟨e, h2, h3⟩ | ⟨e, h2, h4⟩ | ⟨e, h1, h4⟩ | ⟨e, h2, h4⟩ | e | e | ⟨e, h4⟩ | ⟨e, h4⟩ | ⟨e, h1, h4⟩ | ⟨e, h2, h4⟩
  all_goals simp only [genIns, genDef, genDef1, ctrOf, e, if_true, reduceIte, Int.reduceEq, if_false, GSt.emit, GSt.refer, List.filter_append, u1, u2, s, List.append_nil, Option.toList_none, Option.toList_some]
  · rw [filter_noC (noC_const (r1 h1) _)]; simp only [List.append_nil]
  · rw [o (r1 h1)]; simp only [List.append_nil]
  · rw [filter_noC (noC_bin (r1 h1) _ _ _)]; simp only [List.append_nil]
  · rw [o (r1 h1)]; simp only [List.append_nil]
  · rw [o2 rfl (by simp)]; simp only [List.append_nil]
  · rw [o (r1 h1)]; simp only [List.append_nil]
  · rw [o2 rfl (by simp)]; simp only [List.append_nil]
  · rw [o (r1 h2)]; simp only [List.append_nil]
  · rw [o (r1 h1)]; simp only [List.append_nil]
  · rw [o2 rfl (by simp)]; simp only [List.append_nil]
  · rw [o2 rfl (by simp)]; simp only [List.append_nil]
  · rw [o2 rfl (by simp)]; simp only [List.append_nil]
  · rw [List.filter_cons_of_pos (by simp [ctr, wrOp]; omega)]; rfl
  · rw [List.filter_cons_of_pos (by simp [ctr, wrOp]; omega)]; rfl
  · rw [o (r1 h1)]; simp only [List.append_nil]
  · rw [List.filter_cons_of_pos (by simp [ctr, wrOp]; omega)]; rfl
theorem genCode_ctr {regs : Int} {arrs shared : List S44} {pl : List (Int × Int)} (hp : PlOk regs pl) (sp : Int) (m : ByteArray → Int) (l : List S51) (h : ∀ i ∈ l, insOk regs arrs shared i = true) : ∀ st : GSt,
    (genCode sp pl m st l).code.filter ctr = st.code.filter ctr ++ l.filterMap ctrOf := by
  induction l with
  | nil => intro st; simp [genCode]
  | cons i l ih =>
    intro st
    have h1 := genIns_ctr (h i (List.mem_cons_self ..)) hp sp m st
    have h2 := ih (fun j hj => h j (List.mem_cons_of_mem _ hj)) (genIns sp pl m st i)
    simp only [genCode, List.foldl_cons] at h2 ⊢
    rw [h2, h1, List.filterMap_cons]
    cases hq : ctrOf i <;> simp
theorem genBlk_ctr {nb regs : Int} {arrs shared : List S44} {pl : List (Int × Int)} (hp : PlOk regs pl) (sp : Int) (m : ByteArray → Int) (st : GSt) (k : Int) (b : S49) (hb : blkOk regs nb arrs shared b = true) :
    (genBlk sp pl m st k b).code.filter ctr = st.code.filter ctr ++ b.f0.filterMap ctrOf := by
  simp only [blkOk, Bool.and_eq_true, List.all_eq_true] at hb
  have h1 := genCode_ctr hp sp m b.f0 hb.2 st.start
  have o2 : ∀ {x : S53}, wrOp x.f0 = false → x.f0 ≠ 25 → [x].filter ctr = [] := fun {x} h1 h2 => filter_noC (fun y hy => by rw [List.mem_singleton.1 hy]; exact .inr (.inr ⟨h1, h2⟩))
  have u1 := fun p => filter_noC (noC_use sp p (into := 14) (by decide))
  change _ = st.code.filter ctr ++ _ at h1
  unfold genBlk
  simp only
  generalize genCode sp pl m st.start b.f0 = st2 at *
  split
  · simp only [GSt.emit, List.filter_append, h1]; rw [o2 rfl (by simp), List.append_nil]
  · split
    · split
      · simp only [GSt.emit, GSt.leap, List.filter_append, u1, h1, List.append_nil]; rw [o2 rfl (by simp), List.append_nil]
      · simp only [GSt.emit, GSt.leap, List.filter_append, u1, h1, List.append_nil]; rw [o2 rfl (by simp), o2 rfl (by simp), List.append_nil, List.append_nil]
    · split
      · exact h1
      · simp only [GSt.leap, List.filter_append, h1]; rw [o2 rfl (by simp), List.append_nil]
theorem genTo_ctr {regs : Int} {arrs : List S44} {blks : List S49} {shared : List S44} (h : irOk regs arrs blks shared = true) {pl : List (Int × Int)} (hp : PlOk regs pl) (sp : Int) (m : ByteArray → Int) (st : GSt) (k : Nat) (hk : k ≤ blks.length) :
    (genTo sp pl m blks st k).code.filter ctr = st.code.filter ctr ++ (blks.take k).flatMap (fun b => b.f0.filterMap ctrOf) := by
  induction k with
  | zero => simp [genTo]
  | succ k ih =>
    rw [genTo, genBlk_ctr hp sp m _ _ _ ((irOk_facts h).2.2.2.2.2.2 k (by omega)), ih (by omega), List.take_add_one, List.getElem?_eq_getElem (by omega), rd_Blk_get _ _ (by omega)]
    simp only [Option.toList_some, List.flatMap_append, List.flatMap_cons, List.flatMap_nil, List.append_nil, List.append_assoc]
theorem filter_same : ∀ (a b : List S53), a.length = b.length → (∀ k : Nat, k < b.length → rd_T53 a k = rd_T53 b k ∨ (ctr (rd_T53 a k) = false ∧ ctr (rd_T53 b k) = false)) → a.filter ctr = b.filter ctr := by
  intro a
  induction a with
  | nil => intro b hl _; cases b with | nil => rfl | cons _ _ => simp at hl
  | cons x a ih =>
    intro b hl h
    cases b with
    | nil => simp at hl
    | cons y b =>
      have h0 := h 0 (by simp)
      have h1 : ∀ k : Nat, k < b.length → rd_T53 a k = rd_T53 b k ∨ (ctr (rd_T53 a k) = false ∧ ctr (rd_T53 b k) = false) := fun k hk => by
        have := h (k + 1) (by simp; omega)
        simpa [rd_T53] using this
      have e := ih b (by simpa using hl) h1
      simp only [rd_T53] at h0
      rcases h0 with h0 | ⟨h0, h2⟩
      · have : x = y := by simpa using h0
        subst this
        simp only [List.filter_cons, e]
      · have h0 : ctr x = false := by simpa using h0
        have h2 : ctr y = false := by simpa using h2
        simp only [List.filter_cons, h0, h2, e, Bool.false_eq_true, if_false]
/-- the counters' instructions in the object's code are the function's, in its order -/
theorem task_ctr {regs : Int} {arrs : List S44} {blks : List S49} {shared : List S44} (h : irOk regs arrs blks shared = true) {places : List (Int × Int)} {slots : Int} (hA : AllocOk regs places slots)
    {nb : Int} (addr : List Int) (size : Int) (hG : GOk nb (genTask arrs addr size blks places slots)) :
    (patchAll (genTask arrs addr size blks places slots)).filter ctr = blks.flatMap (fun b => b.f0.filterMap ctrOf) := by
  have h1 : (patchAll (genTask arrs addr size blks places slots)).filter ctr = (genTask arrs addr size blks places slots).code.filter ctr := by
    obtain ⟨hl, hf⟩ := fold_patch (genTask arrs addr size blks places slots).starts (genTask arrs addr size blks places slots).patches (genTask arrs addr size blks places slots).code (fun p hp => ⟨(hG.pat p hp).1, (hG.pat p hp).2.1⟩)
    refine filter_same _ _ hl (fun k hk => ?_)
    obtain ⟨hs, hc⟩ := hf k hk
    rcases hc with ⟨p, hp, e1, e2⟩ | ⟨_, e⟩
    · right
      obtain ⟨_, _, c, _⟩ := hG.pat p hp
      rw [e1] at c
      have c2 := hs.1
      change (rd_T53 (patchAll (genTask arrs addr size blks places slots)) k).f0 = _ at c2
      constructor
      · unfold ctr wrOp; rcases c with c | c <;> rw [c2, c] <;> rfl
      · unfold ctr wrOp; rcases c with c | c <;> rw [c] <;> rfl
    · exact .inl e
  rw [h1, genTask, genTo_ctr h (plOk_of hA) _ _ _ _ (Nat.le_refl _), List.take_length]
  have h2 : (genStores size slots.toNat).filter ctr = [] := filter_noC (fun x hx => by
    obtain ⟨s, _, rfl⟩ := List.mem_map.1 hx
    exact .inl (by simp))
  simp only [h2, List.nil_append]
end Go.Proofs.Ytadaopfcgpfiiaa
