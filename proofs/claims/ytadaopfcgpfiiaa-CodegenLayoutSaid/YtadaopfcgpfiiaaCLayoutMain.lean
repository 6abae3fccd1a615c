/- The statement CodegenLayout is proved: the law returns true for every input, and the input reads as it did. Conditions: none beyond the statement's own -/
import Derived.Test.YtadaopfcgpfiiaaCLayoutX13
import Derived.Test.YtadaopfcgpfiiaaRows
import Derived.Deep.Slices
import Derived.ProofKit
import Derived.OpenShut
import Derived.ShutString
import Derived.ChangeOld
import Derived.Below
import Derived.Carry
import Derived.SizedLaws
import Derived.Test.YtadaopfcgpfiiaaCLayoutX27
import Derived.WalkKit
namespace Go.Proofs.Ytadaopfcgpfiiaa
open Go.RowKit Go.Proofs.YtadaopfcgpfiiaaW.PrintWords Go.Proofs.YtadaopfcgpfiiaaW.PrintLast Go.Proofs.YtadaopfcgpfiiaaW.PrintMore PCg
open Go.ChangeShapes Go.WideShapes Go.ChangeAt
set_option linter.unusedVariables false
set_option linter.unusedSimpArgs false
theorem fld1 {H : Type} {enc : TypeId × Value → H} {P : Program} {w : World} {base : Nat} {sp : Nat → Bool} {held : Bool} {fs : Array Field} {xs : List (DataW H × List MemPlace)} {n : Nat} {cs : List Value}
    (hf : ∀ (i : Nat) (f : Field), fs[i]? = some f → DataW.trod enc P w base sp held n f.type ((cs.drop f.offset).take (P.cellsOf f.type)) = xs[i]?) (hlen : xs.length = fs.size)
    (i : Nat) (f : Field) (hi : fs[i]? = some f) (h1 : P.cellsOf f.type = 1) (c : Value) (hc : cs[f.offset]? = some c) : ∃ y, DataW.trod enc P w base sp held n f.type [c] = some y := by
  have h := hf i f hi
  have hlt : i < fs.size := by
    rcases Nat.lt_or_ge i fs.size with h | h
    · exact h
    · rw [Array.getElem?_eq_none h] at hi; cases hi
  rw [h1, List.getElem?_eq_getElem (by omega)] at h
  obtain ⟨hcl, hce⟩ := List.getElem?_eq_some_iff.1 hc
  rw [List.drop_eq_getElem_cons hcl, hce] at h
  exact ⟨_, h⟩
/-- cells of a type read as a value of a kind -/
structure TR {α : Type} (K : Kd α) (good : α → Prop) (t : TypeId) : Prop where
  sz : Try.prog.cellsOf t = K.sz
  get : ∀ {H : Type} {enc : TypeId × Value → H} {w : World} {base : Nat} {sp : Nat → Bool} {held : Bool} {fuel : Nat} {cs : List Value} {x : DataW H × List MemPlace},
    DataW.trod enc Try.prog w base sp held fuel t cs = some x → ∃ a, K.K w a cs ∧ good a
theorem TR.slice {α : Type} [Inhabited α] {K : Kd α} {good : α → Prop} {t s : TypeId} (h : TR K good t) (hs : Try.prog.underlying s = some (.slice t)) {H : Type} {enc : TypeId × Value → H} {w : World} {base : Nat} {sp : Nat → Bool} {held : Bool} {fuel : Nat} {cs : List Value} {x : DataW H × List MemPlace}
    (hx : DataW.trod enc Try.prog w base sp held fuel s cs = some x) : ∃ (A : Option Addr) (c : Nat) (xs : List α), cs = [.slice A xs.length c] ∧ xs.length ≤ c ∧ c ≤ maxLen ∧ Kd.C K w A xs.length xs ∧ ∀ a ∈ xs, good a := by
  rcases Deep.open_slice hs hx with ⟨rfl, _⟩ | ⟨a, len, cap, m, n, D, Pl, rfl, hb, hl, hm, hmm, _, hel⟩
  · exact ⟨none, 0, [], rfl, Nat.le_refl _, Nat.zero_le _, ⟨rfl, by simp, by simp⟩, by simp⟩
  · have hlm : len ≤ m := by rw [hmm]; split <;> omega
    have h1 : ∀ i, i < len → ∃ y : α × List Value, K.K w y.1 y.2 ∧ good y.1 ∧ w.cells? base (a.add (i * Try.prog.cellsOf t)) (Try.prog.cellsOf t) = some y.2 := fun i hi => by
      obtain ⟨cs', hc, ht⟩ := hel i (by omega)
      obtain ⟨y, hK, hg⟩ := h.get ht
      exact ⟨(y, cs'), hK, hg, hc⟩
    obtain ⟨F, hF⟩ := Deep.choose_lt h1
    have hmx : maxLen ≤ 9223372036854775807 := by decide
    refine ⟨some a, cap, (List.range len).map (fun i => (F i).1), by simp, by simpa using hl, hm, ⟨by simp, by simp; omega, fun _ => ⟨a, rfl, fun j p hj => ?_⟩⟩, fun y hy => ?_⟩
    · simp only [List.getElem?_map] at hj
      obtain ⟨i, hi, rfl⟩ := Option.map_eq_some_iff.1 hj
      obtain ⟨hjl, hji⟩ := List.getElem?_eq_some_iff.1 hi
      simp at hjl hji
      subst hji
      obtain ⟨hK, _, hc⟩ := hF j hjl
      refine ⟨(F j).2, K.K_len hK, hK, fun q u hu => ?_⟩
      obtain ⟨_, hl2, hcell⟩ := World.cells?_some hc
      have hq : q < Try.prog.cellsOf t := by
        have := (List.getElem?_eq_some_iff.1 hu).1
        omega
      have := hcell q hq
      rw [Deep.add_add, h.sz] at this
      rw [this]
      exact hu
    · obtain ⟨i, hi, rfl⟩ := List.mem_map.1 hy
      exact (hF i (List.mem_range.1 hi)).2.1
instance : Inhabited S44 := ⟨z44⟩
instance : Inhabited S51 := ⟨z51⟩
instance : Inhabited S49 := ⟨z49⟩
instance : Inhabited S105 := ⟨z105⟩
instance : Inhabited S53 := ⟨z53⟩
def gArr (a : S44) : Prop := a.f0.size ≤ maxLen ∧ (Lit.int .i64 a.f1).wf = true
set_option maxRecDepth 100000 in
theorem tr_Arr : TR k44 gArr 44 := ⟨by kernel_rfl, fun {H enc w base sp held fuel cs x} h => by
  obtain ⟨xs, n, _, rfl, hl, hlen, hf⟩ := DataW.trod_struct Try.underlying44 h
  have hl' : cs.length = 2 := hl.trans (by kernel_rfl)
  match cs, hl' with
  | [c0, c1], _ =>
    obtain ⟨y0, g0⟩ := fld1 hf hlen 0 _ rfl (by kernel_rfl) _ rfl
    obtain ⟨y1, g1⟩ := fld1 hf hlen 1 _ rfl (by kernel_rfl) _ rfl
    obtain ⟨s0, e0, _, b0⟩ := DataW.trod_string Try.underlying9 g0
    obtain ⟨s1, e1, _, b1⟩ := DataW.trod_int Try.underlying3 g1
    cases e0; cases e1
    exact ⟨⟨s0, s1⟩, k44_mk w ⟨s0, s1⟩, b0, b1⟩⟩
set_option maxRecDepth 100000 in
/-- an argument: a slice -/
theorem arg_slice {α : Type} [Inhabited α] {K : Kd α} {good : α → Prop} {t s : TypeId} (h : TR K good t) (hs : Try.prog.underlying s = some (.slice t)) {H : Type} {enc : TypeId × Value → H} {w : World} {base b0 : Nat} {sp : Nat → Bool} {held : Bool} {r : Reach} {v : Value} {d : DataW H} {p : List MemPlace}
    (hv : Value.okWide Try.prog w r b0 s v) (hx : DataW.Trod enc Try.prog w base sp held s v d p) : ∃ (A : Option Addr) (c : Nat) (xs : List α), v = .slice A xs.length c ∧ xs.length ≤ c ∧ c ≤ maxLen ∧ Kd.C K w A xs.length xs ∧ ∀ a ∈ xs, good a := by
  obtain ⟨a, len, cap, rfl⟩ := okWide_slice hs hv
  obtain ⟨fuel, hf⟩ := hx
  obtain ⟨A, c, xs, e, h1⟩ := h.slice hs hf
  simp [Value.cells] at e
  obtain ⟨rfl, rfl, rfl⟩ := e
  exact ⟨_, _, xs, rfl, h1⟩
end Go.Proofs.Ytadaopfcgpfiiaa
namespace Go.Proofs.Ytadaopfcgpfiiaa.codegenLayout
open Go.ChangeShapes Go.WideShapes Go.ChangeAt Go.RowKit
set_option linter.unusedVariables false
theorem own : ownKnob Try.prog.godebug = none := by kernel_rfl
theorem laidOut : laidOutB Try.prog = true := by kernel_rfl
set_option maxRecDepth 100000 in
theorem lifted (os : Os) (started : os.Started) (H : Type) (enc : TypeId × Value → H) :
    ReturnsInHanded {} Try.checked os 5 .any (Rows.codegenLayoutSpec.pre6 enc Try.prog Try.f5 Rows.codegenLayoutRow.domain false) (Rows.codegenLayoutSpec.post enc Try.prog Try.f5 false true false false) := by
  refine returnsInHanded_of_change_sized (C := Try.checked) own started (by kernel_rfl) Try.func5
    (ChangeSpec.witness6 (enc := enc) (C := Try.checked) false ⟨#[], #[.slice none 0 0], []⟩ 8 (by kernel_rfl) (by kernel_rfl) (by kernel_rfl) (by kernel_rfl)) ?_
  intro W base args ds gs before hval0 hW hcnd hsz0 _
  have hval : ∀ (j : Nat) t v, Try.f5.params[j]? = some t → args[j]? = some v → Value.okWide Try.prog W .any base t v := hval0
  have hW' := hW
  obtain ⟨p, q, hA0, hV, rfl, hfz, hnd⟩ := hW
  have hA : DataW.TrodAll enc Try.prog W 0 (fun _ => true) true Try.f5.params.toList args.toList ds p := hA0
  rw [Try.params5] at hA hval
  obtain ⟨v0, vs0, d0, ds0, p0, q0, hargs, rfl, rfl, h0, r0⟩ := trodAll_cons hA
  obtain ⟨rfl, rfl, rfl⟩ := trodAll_nil r0
  obtain rfl : args = #[v0] := by cases args; simp_all
  obtain ⟨rfl, rfl⟩ := trodVars_none hV
  have k0 := h0
  have lt0 : ∀ x ∈ p0, x.block < W.heap.size := by obtain ⟨m, hm⟩ := k0; exact DataW.trod_lt m _ _ _ hm
  obtain ⟨A0, c0, l0, rfl, hcp0, hcm0, hC0, hg0⟩ := arg_slice tr_Arr Try.underlying22 (hval 0 22 v0 rfl rfl) h0
  clear hA0 hval0 hsz0
  refine (lawLayout_any A0 c0 l0 W hC0 hcp0).mono fun e W' ⟨he, bel⟩ => ?_
  subst he
  exact ⟨_, rfl, _, _, _, [], _, [], hW', trodAll_mk1 (shut_bool Try.underlying4 _), (trodAll_cons_mk (Below.trod laidOut (by kernel_rfl) (of_decide_eq_true (by kernel_rfl)) k0 bel lt0) trodAll_mk0), rfl, bel.frame _, fun h => by cases h⟩
theorem over : Rows.codegenLayoutRow.holds Try.pinned (OpenSpec.ofChange Rows.codegenLayoutSpec) :=
  OpenClaim.holds_of_wide 5 Try.f5 rfl rfl rfl rfl rfl rfl rfl ⟨rfl, rfl, rfl, rfl, rfl⟩ rfl rfl rfl rfl rfl (by kernel_rfl) Try.func5 (by kernel_rfl)
    (of_decide_eq_true (by kernel_rfl)) (by unfold Func.isWrapper; first | (rw [if_pos (by decide +kernel)]; kernel_rfl) | (rw [if_neg (by decide +kernel)]; exact ⟨rfl, rfl⟩))
    (fun os started H enc _ => lifted os started H enc)
end Go.Proofs.Ytadaopfcgpfiiaa.codegenLayout
namespace Go.Proofs.Ytadaopfcgpfiiaa
theorem codegenLayout_holds : Rows.CodegenLayoutSaid := codegenLayout.over
#print axioms codegenLayout_holds
end Go.Proofs.Ytadaopfcgpfiiaa
