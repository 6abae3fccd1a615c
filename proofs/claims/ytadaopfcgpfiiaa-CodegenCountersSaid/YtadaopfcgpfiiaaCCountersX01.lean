/- Lemmas: what the theorem of the claim's last text needs, joined by a program out of the seat's texts N0, N1, P0, O0. -/
import Derived.Test.YtadaopfcgpfiiaaBaseX26
import Derived.Test.YtadaopfcgpfiiaaCCountersX00
import Derived.Test.YtadaopfcgpfiiaaBaseX33
import Derived.Deep.RegionHeld3
import Derived.Test.YtadaopfcgpfiiaaBaseX14
import Derived.Test.YtadaopfcgpfiiaaRows
import Derived.Deep.Slices
import Derived.ProofKit
import Derived.OpenShut
import Derived.ShutString
import Derived.ChangeOld
import Derived.Below
import Derived.Carry
import Derived.SizedLaws
namespace Go.Proofs.Ytadaopfcgpfiiaa
open Go.RowKit Go.Proofs.YtadaopfcgpfiiaaW.PrintWords Go.Proofs.YtadaopfcgpfiiaaW.PrintLast Go.Proofs.YtadaopfcgpfiiaaW.PrintMore PCg
set_option linter.unusedVariables false
set_option linter.unusedSimpArgs false
theorem and14 (n : Int) : Go.bits .and .i32 n 16383 = n % 16384 := by
  have h : ((BitVec.ofInt 32 n &&& BitVec.ofInt 32 16383).toNat : Int) = n % 16384 := by
    rw [BitVec.toNat_and, BitVec.toNat_ofInt, BitVec.toNat_ofInt, show ((16383 : Int) % ((2 ^ 32 : Nat) : Int)).toNat = 2 ^ 14 - 1 from by decide, Nat.and_two_pow_sub_one_eq_mod]
    omega
  show IntKind.wrap .i32 ((BitVec.ofInt 32 n &&& BitVec.ofInt 32 16383).toNat : Int) = _
  rw [h, IntKind.wrap_i32]
  omega
/-- where the references are, and their kinds -/
def rk (p : Int) : List S53 → List (Int × Bool)
  | [] => []
  | x :: l => match refKind x.f0 with
    | none => rk (p + 1) l
    | some b => (p, b) :: rk (p + 1) l
theorem rk_append (a b : List S53) : ∀ p : Int, rk p (a ++ b) = rk p a ++ rk (p + a.length) b := by
  induction a with
  | nil => intro p; simp [rk]
  | cons x a ih =>
    intro p
    simp only [List.cons_append, rk, List.length_cons]
    rw [ih, show p + 1 + (a.length : Int) = p + ((a.length + 1 : Nat) : Int) by omega]
    cases refKind x.f0 <;> rfl
theorem rd_Instr_get (l : List S53) (k : Nat) (h : k < l.length) : rd_T53 l (k : Int) = l[k] := by
  simp only [rd_T53, List.getD_eq_getElem?_getD, Int.toNat_natCast, List.getElem?_eq_getElem h, Option.getD_some]
theorem vTo_ok {code : List S53} {refs : List S105} (hR : refs.map (fun r => (r.f0, r.f2)) = rk 0 code)
    (hI : ∀ k : Nat, k < code.length → instrB (rd_T53 code k) = true ∧ brOk (rd_T53 code k) k code.length = true) : ∀ k : Nat, k ≤ code.length → vTo code refs k = some (rk 0 (code.take k)).length := by
  intro k
  induction k with
  | zero => intro _; rfl
  | succ k ih =>
    intro hk
    obtain ⟨h1, h2⟩ := hI k (by omega)
    have hx := rd_Instr_get code k (by omega)
    have ht : code.take (k + 1) = code.take k ++ [code[k]] := by rw [List.take_add_one, List.getElem?_eq_getElem (by omega)]; rfl
    have hl : (code.take k).length = k := by simp; omega
    rw [vTo, ih (by omega), Option.bind_some, vStep, h1, h2]
    simp only [Bool.and_self, if_true]
    rw [ht, rk_append, hl, hx]
    simp only [rk]
    rw [hx] at h1 h2
    cases hr : refKind code[k].f0 with
    | none => simp
    | some b =>
      have hd : rk 0 code = rk 0 (code.take k) ++ ((k : Int), b) :: rk (k + 1) (code.drop (k + 1)) := by
        have e : code = code.take k ++ (code[k] :: code.drop (k + 1)) := by
          rw [List.getElem_cons_drop]; exact (List.take_append_drop k code).symm
        conv => lhs; rw [e]
        rw [rk_append, hl]
        simp only [rk, hr, Int.zero_add]
      have hg : (refs.map (fun r => (r.f0, r.f2)))[(rk 0 (code.take k)).length]? = some ((k : Int), b) := by
        rw [hR, hd, List.getElem?_append_right (Nat.le_refl _), Nat.sub_self]
        rfl
      rw [List.getElem?_map] at hg
      obtain ⟨r, hr1, hr2⟩ := Option.map_eq_some_iff.1 hg
      obtain ⟨hlt, hge⟩ := List.getElem?_eq_some_iff.1 hr1
      have hrd : rd_T105 refs ((rk 0 (code.take k)).length : Int) = r := by
        simp only [rd_T105, List.getD_eq_getElem?_getD, Int.toNat_natCast, hr1, Option.getD_some]
      injection hr2 with q1 q2
      simp only [hrd]
      rw [if_pos ⟨hlt, q1, q2⟩]
      simp
theorem objB_ok {code : List S53} {data : Int} {refs : List S105} (h1 : 1 ≤ code.length) (h2 : code.length ≤ 4096) (h3 : 0 ≤ data) (h4 : data ≤ 512) (hR : refs.map (fun r => (r.f0, r.f2)) = rk 0 code)
    (hI : ∀ k : Nat, k < code.length → instrB (rd_T53 code k) = true ∧ brOk (rd_T53 code k) k code.length = true) : objB code data refs = true := by
  have h := vTo_ok hR hI code.length (Nat.le_refl _)
  have hl : refs.length = (rk 0 code).length := by rw [← hR]; simp
  rw [List.take_length] at h
  simp [objB, h1, h2, h3, h4, h, hl]
/-- an instruction of a generator: valid, and no branch -/
def okI (x : S53) : Prop := instrB x = true ∧ ¬(22 ≤ x.f0 ∧ x.f0 ≤ 24)
/-- code and references are added together -/
def GStep (st st' : GSt) : Prop := ∃ l rl, st'.code = st.code ++ l ∧ st'.refs = st.refs ++ rl ∧ st'.starts = st.starts ∧ st'.patches = st.patches ∧ (∀ x ∈ l, okI x) ∧ rl.map (fun r => (r.f0, r.f2)) = rk st.code.length l
theorem GStep.refl (st : GSt) : GStep st st := ⟨[], [], by simp, by simp, rfl, rfl, by simp, rfl⟩
theorem GStep.trans {a b c : GSt} (h : GStep a b) (k : GStep b c) : GStep a c := by
  obtain ⟨l, rl, h1, h2, h3, h4, h5, h6⟩ := h
  obtain ⟨l', rl', k1, k2, k3, k4, k5, k6⟩ := k
  refine ⟨l ++ l', rl ++ rl', by rw [k1, h1, List.append_assoc], by rw [k2, h2, List.append_assoc], k3.trans h3, k4.trans h4, fun x hx => ?_, ?_⟩
  · rcases List.mem_append.1 hx with h | h
    · exact h5 x h
    · exact k5 x h
  · rw [List.map_append, h6, k6, rk_append, h1, List.length_append]
    rw [show ((a.code.length + l.length : Nat) : Int) = (a.code.length : Int) + l.length by omega]
theorem rk_none {l : List S53} (h : ∀ x ∈ l, refKind x.f0 = none) : ∀ p, rk p l = [] := by
  induction l with
  | nil => intro p; rfl
  | cons x l ih => intro p; simp only [rk, h x (List.mem_cons_self ..)]; exact ih (fun y hy => h y (List.mem_cons_of_mem _ hy)) _
theorem gs_emit {st : GSt} {l : List S53} (h : ∀ x ∈ l, okI x ∧ refKind x.f0 = none) : GStep st (st.emit l) := by
  refine ⟨l, [], rfl, by simp [GSt.emit], rfl, rfl, fun x hx => (h x hx).1, ?_⟩
  rw [rk_none (fun x hx => (h x hx).2)]
  rfl
theorem gs_refer {st : GSt} {x : S53} {nm : ByteArray} (h : okI x) (hk : refKind x.f0 = some (isLock x.f0)) : GStep st (st.refer x nm) := by
  refine ⟨[x], [⟨st.code.length, nm, isLock x.f0⟩], rfl, rfl, rfl, rfl, fun y hy => ?_, ?_⟩
  · rw [List.mem_singleton.1 hy]; exact h
  · simp [rk, hk]
/-- the places are good -/
def PlOk (regs : Int) (pl : List (Int × Int)) : Prop := ∀ v, 0 ≤ v → v < regs → (((rdTwo pl v).2 = -1 ∧ 2 ≤ (rdTwo pl v).1 ∧ (rdTwo pl v).1 ≤ 9) ∨ ((rdTwo pl v).1 = 0 ∧ 0 ≤ (rdTwo pl v).2 ∧ (rdTwo pl v).2 ≤ 10000))
theorem useReg_in {regs : Int} {pl : List (Int × Int)} (h : PlOk regs pl) {v : Int} (h0 : 0 ≤ v) (h1 : v < regs) {into : Int} (hi : 0 ≤ into ∧ into < 16) : 0 ≤ useReg (rdTwo pl v) into ∧ useReg (rdTwo pl v) into < 16 := by
  have := h v h0 h1
  unfold useReg
  split <;> omega
theorem useCode_ok {regs : Int} {pl : List (Int × Int)} (h : PlOk regs pl) {sp : Int} (s0 : 0 ≤ sp) (s1 : sp ≤ 1000) {v : Int} (h0 : 0 ≤ v) (h1 : v < regs) {into : Int} (hi : 0 ≤ into ∧ into < 16) :
    ∀ x ∈ useCode sp (rdTwo pl v) into, okI x ∧ refKind x.f0 = none := by
  have := h v h0 h1
  unfold useCode
  split
  · intro x hx; cases hx
  · intro x hx
    rw [List.mem_singleton.1 hx]
    refine ⟨⟨?_, by simp⟩, by simp [refKind]⟩
    simp [instrB, fmtOf, regB]
    omega
theorem storeCode_ok {regs : Int} {pl : List (Int × Int)} (h : PlOk regs pl) {sp : Int} (s0 : 0 ≤ sp) (s1 : sp ≤ 1000) {v : Int} (h0 : 0 ≤ v) (h1 : v < regs) :
    ∀ x ∈ storeCode sp (rdTwo pl v), okI x ∧ refKind x.f0 = none := by
  have := h v h0 h1
  unfold storeCode
  split
  · intro x hx; cases hx
  · intro x hx
    rw [List.mem_singleton.1 hx]
    refine ⟨⟨?_, by simp⟩, by simp [refKind]⟩
    simp [instrB, fmtOf, regB]
    omega
theorem constCode_ok {d n : Int} (hd : 0 ≤ d ∧ d < 16) (hn : -2147483648 ≤ n ∧ n ≤ 2147483647) : ∀ x ∈ constCode d n, okI x ∧ refKind x.f0 = none := by
  unfold constCode
  split
  · intro x hx; cases hx
  split
  · intro x hx; cases hx
  split
  · intro x hx
    rw [List.mem_singleton.1 hx, w64 (by omega)]
    refine ⟨⟨?_, by simp⟩, by simp [refKind]⟩
    simp [instrB, fmtOf, regB]
    omega
  · rw [and14, w64 (n := n / 16384) (by omega), w64 (n := n % 16384) (by omega)]
    intro x hx
    simp only [List.mem_cons, List.not_mem_nil, or_false] at hx
    rcases hx with rfl | rfl | rfl
    all_goals
      refine ⟨⟨?_, by simp⟩, by simp [refKind]⟩
      simp [instrB, fmtOf, regB]
      omega
theorem ok3 {o d x y : Int} (ho : 2 ≤ o ∧ o ≤ 13) (hd : 0 ≤ d ∧ d < 16) (hx : 0 ≤ x ∧ x < 16) (hy : 0 ≤ y ∧ y < 16) : okI ⟨o, d, x, y, 0⟩ ∧ refKind o = none := by
  refine ⟨⟨?_, by dsimp only; omega⟩, by unfold refKind; rw [if_neg (by omega), if_neg (by omega)]⟩
  simp [instrB, fmtOf, regB, ho]
  omega
theorem binCode_ok {op d x y : Int} (ho : 6 ≤ op ∧ op ≤ 23) (hd : 0 ≤ d ∧ d < 16) (hx : 0 ≤ x ∧ x < 16) (hy : 0 ≤ y ∧ y < 16) : ∀ z ∈ binCode op d x y, okI z ∧ refKind z.f0 = none := by
  unfold binCode
  repeat' split
  all_goals
    intro z hz
    simp only [List.mem_cons, List.not_mem_nil, or_false] at hz
  all_goals first
    | (rcases hz with rfl | rfl | rfl | rfl <;> exact ok3 (by omega) (by omega) (by omega) (by omega))
    | (rcases hz with rfl | rfl | rfl <;> exact ok3 (by omega) (by omega) (by omega) (by omega))
    | (rcases hz with rfl | rfl <;> exact ok3 (by omega) (by omega) (by omega) (by omega))
    | (subst hz; exact ok3 (by omega) (by omega) (by omega) (by omega))
theorem all_append {P : S53 → Prop} {a b : List S53} (ha : ∀ x ∈ a, P x) (hb : ∀ x ∈ b, P x) : ∀ x ∈ a ++ b, P x := fun x hx => (List.mem_append.1 hx).elim (ha x) (hb x)
theorem all_one {P : S53 → Prop} {a : S53} (h : P a) : ∀ x ∈ [a], P x := fun x hx => by rw [List.mem_singleton.1 hx]; exact h
/-- what insOk says of each opcode -/
theorem insOk_cases {regs : Int} {arrs shared : List S44} {i : S51} (h : insOk regs arrs shared i = true) :
    (i.f0 = 1 ∧ (0 ≤ i.f1 ∧ i.f1 < regs) ∧ -2147483648 ≤ i.f4 ∧ i.f4 ≤ 2147483647) ∨ (i.f0 = 2 ∧ (0 ≤ i.f1 ∧ i.f1 < regs) ∧ 0 ≤ i.f2 ∧ i.f2 < regs) ∨
    (i.f0 = 3 ∧ (0 ≤ i.f1 ∧ i.f1 < regs) ∧ (0 ≤ i.f2 ∧ i.f2 < regs) ∧ (0 ≤ i.f3 ∧ i.f3 < regs) ∧ 6 ≤ i.f4 ∧ i.f4 ≤ 23) ∨ (i.f0 = 4 ∧ (0 ≤ i.f1 ∧ i.f1 < regs) ∧ 0 ≤ i.f2 ∧ i.f2 < regs) ∨
    (i.f0 = 5 ∧ (0 ≤ i.f2 ∧ i.f2 < regs) ∧ 0 ≤ i.f3 ∧ i.f3 < regs) ∨ (i.f0 = 6 ∧ (0 ≤ i.f1 ∧ i.f1 < regs) ∧ 0 ≤ i.f2 ∧ i.f2 < regs) ∨ (i.f0 = 7 ∧ (0 ≤ i.f2 ∧ i.f2 < regs) ∧ 0 ≤ i.f3 ∧ i.f3 < regs) ∨
    (i.f0 = 8 ∧ (0 ≤ i.f2 ∧ i.f2 < regs) ∧ 1 ≤ i.f4 ∧ i.f4 ≤ 131071) ∨ (i.f0 = 9 ∧ (0 ≤ i.f1 ∧ i.f1 < regs) ∧ 0 ≤ i.f4 ∧ i.f4 ≤ 7) ∨ (i.f0 = 10 ∧ (0 ≤ i.f2 ∧ i.f2 < regs) ∧ 0 ≤ i.f4 ∧ i.f4 ≤ 7) ∨ i.f0 = 11 ∨ i.f0 = 12 ∨
    (i.f0 = 13 ∧ 0 ≤ i.f4 ∧ i.f4 ≤ 3) ∨ (i.f0 = 14 ∧ 0 ≤ i.f4 ∧ i.f4 ≤ 3) ∨ (i.f0 = 15 ∧ (0 ≤ i.f1 ∧ i.f1 < regs) ∧ 0 ≤ i.f4 ∧ i.f4 ≤ 3) ∨ (i.f0 = 16 ∧ (0 ≤ i.f2 ∧ i.f2 < 4) ∧ 1 ≤ i.f4 ∧ i.f4 ≤ 131071) := by
  unfold insOk xOk at h
  by_cases h16 : i.f0 = 1 ∨ i.f0 = 2 ∨ i.f0 = 3 ∨ i.f0 = 4 ∨ i.f0 = 5 ∨ i.f0 = 6 ∨ i.f0 = 7 ∨ i.f0 = 8 ∨ i.f0 = 9 ∨ i.f0 = 10 ∨ i.f0 = 11 ∨ i.f0 = 12 ∨ i.f0 = 13 ∨ i.f0 = 14 ∨ i.f0 = 15 ∨ i.f0 = 16
  · rcases h16 with e | e | e | e | e | e | e | e | e | e | e | e | e | e | e | e <;> rw [e] at h <;> simp [shp, regOk] at h <;> simp [e] <;> omega
  · simp only [not_or] at h16
    simp [shp, h16] at h
theorem genIns_ok {regs : Int} {arrs shared : List S44} {i : S51} (h : insOk regs arrs shared i = true) {pl : List (Int × Int)} (hp : PlOk regs pl) {sp : Int} (s0 : 0 ≤ sp) (s1 : sp ≤ 1000)
    {m : ByteArray → Int} (hm : ∀ s, 0 ≤ m s ∧ m s ≤ 1000) (st : GSt) : GStep st (genIns sp pl m st i) := by
  have u1 : ∀ {v : Int}, (0 ≤ v ∧ v < regs) → ∀ x ∈ useCode sp (rdTwo pl v) 14, okI x ∧ refKind x.f0 = none := fun hv => useCode_ok hp s0 s1 hv.1 hv.2 (by omega)
  have u2 : ∀ {v : Int}, (0 ≤ v ∧ v < regs) → ∀ x ∈ useCode sp (rdTwo pl v) 15, okI x ∧ refKind x.f0 = none := fun hv => useCode_ok hp s0 s1 hv.1 hv.2 (by omega)
  have r1 : ∀ {v : Int}, (0 ≤ v ∧ v < regs) → 0 ≤ useReg (rdTwo pl v) 14 ∧ useReg (rdTwo pl v) 14 < 16 := fun hv => useReg_in hp hv.1 hv.2 (by omega)
  have r2 : ∀ {v : Int}, (0 ≤ v ∧ v < regs) → 0 ≤ useReg (rdTwo pl v) 15 ∧ useReg (rdTwo pl v) 15 < 16 := fun hv => useReg_in hp hv.1 hv.2 (by omega)
  have t1 : ∀ {v : Int} (st : GSt), (0 ≤ v ∧ v < regs) → GStep st (st.emit (storeCode sp (rdTwo pl v))) := fun st hv => gs_emit (storeCode_ok hp s0 s1 hv.1 hv.2)
  rcases insOk_cases h with ⟨e, h1, h4⟩ | ⟨e, h1, h2⟩ | ⟨e, h1, h2, h3, h4⟩ | ⟨e, h1, h2⟩ | ⟨e, h2, h3⟩ | ⟨e, h1, h2⟩ | ⟨e, h2, h3⟩ | ⟨e, h2, h4⟩ | ⟨e, h1, h4⟩ | ⟨e, h2, h4⟩ | e | e | ⟨e, h4⟩ | ⟨e, h4⟩ | ⟨e, h1, h4⟩ | ⟨e, h2, h4⟩
  all_goals simp only [genIns, genDef, genDef1, e, if_true, reduceIte, Int.reduceEq, if_false]
  · refine GStep.trans (gs_emit ?_) (t1 _ h1)
    rw [IntWalk.wrap32_in _ h4]
    exact constCode_ok (r1 h1) h4
  · refine GStep.trans (gs_emit (all_append (u1 h2) (all_one ?_))) (t1 _ h1)
    have := r1 h1; have := r1 h2
    refine ⟨⟨?_, by simp⟩, by simp [refKind]⟩
    simp [instrB, fmtOf, regB]; omega
  · exact GStep.trans (gs_emit (all_append (all_append (u1 h2) (u2 h3)) (binCode_ok h4 (r1 h1) (r1 h2) (r2 h3)))) (t1 _ h1)
  · refine GStep.trans (gs_emit (all_append (u1 h2) (all_one ?_))) (t1 _ h1)
    have := r1 h1; have := r1 h2; have := hm i.f5
    refine ⟨⟨?_, by simp⟩, by simp [refKind]⟩
    simp [instrB, fmtOf, regB]; omega
  · refine gs_emit (all_append (all_append (u1 h2) (u2 h3)) (all_one ?_))
    have := r1 h2; have := r2 h3; have := hm i.f5
    refine ⟨⟨?_, by simp⟩, by simp [refKind]⟩
    simp [instrB, fmtOf, regB]; omega
  · refine GStep.trans (GStep.trans (gs_emit (u1 h2)) (gs_refer ⟨?_, by simp⟩ rfl)) (t1 _ h1)
    have := r1 h1; have := r1 h2
    simp [instrB, fmtOf, regB]; omega
  · refine GStep.trans (gs_emit (all_append (u1 h2) (u2 h3))) (gs_refer ⟨?_, by simp⟩ rfl)
    have := r1 h2; have := r2 h3
    simp [instrB, fmtOf, regB]; omega
  · refine gs_emit (all_append (u1 h2) (all_one ?_))
    have := r1 h2
    refine ⟨⟨?_, by simp⟩, by simp [refKind]⟩
    simp [instrB, fmtOf, regB]; omega
  · refine GStep.trans (gs_emit (all_one ?_)) (t1 _ h1)
    have := r1 h1
    refine ⟨⟨?_, by simp⟩, by simp [refKind]⟩
    simp [instrB, fmtOf, regB]; omega
  · refine gs_emit (all_append (u1 h2) (all_one ?_))
    have := r1 h2
    refine ⟨⟨?_, by simp⟩, by simp [refKind]⟩
    simp [instrB, fmtOf, regB]; omega
  · exact gs_refer ⟨rfl, by simp⟩ rfl
  · exact gs_refer ⟨rfl, by simp⟩ rfl
  · refine gs_emit (all_one ?_)
    refine ⟨⟨?_, by simp⟩, by simp [refKind]⟩
    simp [instrB, fmtOf, regB]; omega
  · refine gs_emit (all_one ?_)
    refine ⟨⟨?_, by simp⟩, by simp [refKind]⟩
    simp [instrB, fmtOf, regB]; omega
  · refine GStep.trans (gs_emit (all_one ?_)) (t1 _ h1)
    have := r1 h1
    refine ⟨⟨?_, by simp⟩, by simp [refKind]⟩
    simp [instrB, fmtOf, regB]; omega
  · refine gs_emit (all_one ?_)
    refine ⟨⟨?_, by simp⟩, by simp [refKind]⟩
    simp [instrB, fmtOf, regB]; omega
theorem genCode_ok {regs : Int} {arrs shared : List S44} {pl : List (Int × Int)} (hp : PlOk regs pl) {sp : Int} (s0 : 0 ≤ sp) (s1 : sp ≤ 1000)
    {m : ByteArray → Int} (hm : ∀ s, 0 ≤ m s ∧ m s ≤ 1000) (l : List S51) (h : ∀ i ∈ l, insOk regs arrs shared i = true) : ∀ st : GSt, GStep st (genCode sp pl m st l) := by
  induction l with
  | nil => intro st; exact GStep.refl _
  | cons i l ih => intro st; exact (genIns_ok (h i (List.mem_cons_self ..)) hp s0 s1 hm st).trans (ih (fun j hj => h j (List.mem_cons_of_mem _ hj)) _)
/-- the state so far: the references fit, the instructions are valid, every branch is a patch, the patches are branches to blocks -/
structure GOk (nb : Int) (st : GSt) : Prop where
  refs : st.refs.map (fun r => (r.f0, r.f2)) = rk 0 st.code
  ins : ∀ x ∈ st.code, instrB x = true
  brs : ∀ k : Nat, k < st.code.length → 22 ≤ (rd_T53 st.code k).f0 ∧ (rd_T53 st.code k).f0 ≤ 24 → ∃ p ∈ st.patches, p.1 = k
  pat : ∀ p ∈ st.patches, 0 ≤ p.1 ∧ p.1 < st.code.length ∧ ((rd_T53 st.code p.1).f0 = 23 ∨ (rd_T53 st.code p.1).f0 = 24) ∧ 0 ≤ p.2 ∧ p.2 < nb
theorem rdi_left (a b : List S53) (k : Int) (h0 : 0 ≤ k) (h : k < a.length) : rd_T53 (a ++ b) k = rd_T53 a k := by
  simp only [rd_T53, List.getD_eq_getElem?_getD, List.getElem?_append_left (show k.toNat < a.length by omega)]
theorem rdi_right (a b : List S53) (k : Nat) (h : k < b.length) : rd_T53 (a ++ b) ((a.length + k : Nat) : Int) = b[k] := by
  rw [rd_Instr_get _ _ (by simp; omega), List.getElem_append_right (by omega)]
  simp
theorem GOk.step {nb : Int} {st st' : GSt} (h : GOk nb st) (s : GStep st st') : GOk nb st' := by
  obtain ⟨l, rl, h1, h2, h3, h4, h5, h6⟩ := s
  refine ⟨?_, fun x hx => ?_, fun k hk hb => ?_, fun p hp => ?_⟩
  · rw [h2, List.map_append, h.refs, h6, h1, rk_append, Int.zero_add]
  · rw [h1] at hx
    exact (List.mem_append.1 hx).elim (h.ins x) (fun hx => (h5 x hx).1)
  · rw [h1] at hk hb
    rw [h4]
    by_cases hlt : k < st.code.length
    · rw [rdi_left _ _ _ (by omega) (by omega)] at hb
      exact h.brs k hlt hb
    · exfalso
      obtain ⟨d, rfl⟩ : ∃ d, k = st.code.length + d := ⟨k - st.code.length, by omega⟩
      rw [List.length_append] at hk
      rw [rdi_right _ _ _ (by omega)] at hb
      exact (h5 _ (List.getElem_mem (by omega))).2 hb
  · rw [h4] at hp
    obtain ⟨a, b, c, d⟩ := h.pat p hp
    rw [h1, rdi_left _ _ _ a b]
    exact ⟨a, by rw [List.length_append]; omega, c, d⟩
theorem GOk.leap {nb : Int} {st : GSt} (h : GOk nb st) {x : S53} {b : Int} (hx : instrB x = true) (ho : x.f0 = 23 ∨ x.f0 = 24) (h0 : 0 ≤ b) (h1 : b < nb) : GOk nb (st.leap x b) := by
  have hend : rd_T53 (st.code ++ [x]) (st.code.length : Int) = x := by
    have := rdi_right st.code [x] 0 (by simp)
    simpa using this
  refine ⟨?_, fun y hy => ?_, fun k hk hb => ?_, fun p hp => ?_⟩
  · have hn : refKind x.f0 = none := by rcases ho with e | e <;> rw [e] <;> rfl
    simp only [GSt.leap]
    rw [rk_append, h.refs]
    simp [rk, hn]
  · exact (List.mem_append.1 hy).elim (h.ins y) (fun hy => by rw [List.mem_singleton.1 hy]; exact hx)
  · simp only [GSt.leap, List.length_append, List.length_cons, List.length_nil] at hk hb ⊢
    by_cases hlt : k < st.code.length
    · rw [rdi_left _ _ _ (by omega) (by omega)] at hb
      obtain ⟨p, hp, e⟩ := h.brs k hlt hb
      exact ⟨p, List.mem_append_left _ hp, e⟩
    · obtain rfl : k = st.code.length := by omega
      exact ⟨_, List.mem_append_right _ (List.mem_singleton_self _), rfl⟩
  · simp only [GSt.leap, List.mem_append, List.mem_singleton] at hp ⊢
    rcases hp with hp | rfl
    · obtain ⟨a, b', c, d⟩ := h.pat p hp
      rw [rdi_left _ _ _ a b']
      exact ⟨a, by rw [List.length_append]; omega, c, d⟩
    · dsimp only
      rw [hend]
      exact ⟨by omega, by simp; omega, ho, h0, h1⟩
theorem GOk.start {nb : Int} {st : GSt} (h : GOk nb st) : GOk nb st.start := ⟨h.refs, h.ins, h.brs, h.pat⟩
theorem genBlk_ok {nb regs : Int} {arrs shared : List S44} {pl : List (Int × Int)} (hp : PlOk regs pl) {sp : Int} (s0 : 0 ≤ sp) (s1 : sp ≤ 1000)
    {m : ByteArray → Int} (hm : ∀ s, 0 ≤ m s ∧ m s ≤ 1000) {st : GSt} (h : GOk nb st) (k : Int) (b : S49) (hb : blkOk regs nb arrs shared b = true) : GOk nb (genBlk sp pl m st k b) := by
  simp only [blkOk, Bool.and_eq_true, List.all_eq_true] at hb
  obtain ⟨he, hi⟩ := hb
  have h2 := h.start.step (genCode_ok hp s0 s1 hm b.f0 hi st.start)
  unfold genBlk
  simp only
  generalize genCode sp pl m st.start b.f0 = st2 at *
  unfold endOk tgtOk at he
  split
  · exact h2.step (gs_emit (all_one ⟨⟨rfl, by simp⟩, rfl⟩))
  · split
    · rename_i g3 g2
      rw [if_neg (by omega), if_pos g2] at he
      simp at he
      have hx : 0 ≤ b.f2 ∧ b.f2 < regs := by omega
      have h3 := (h2.step (gs_emit (useCode_ok hp s0 s1 hx.1 hx.2 (into := 14) (by omega)))).leap (x := ⟨23, useReg (rdTwo pl b.f2) 14, 0, 0, 0⟩) (b := b.f3) (by
        have := useReg_in hp hx.1 hx.2 (into := 14) (by omega)
        simp [instrB, fmtOf, regB]; omega) (.inl rfl) (by omega) (by omega)
      split
      · exact h3
      · exact h3.leap rfl (.inr rfl) (by omega) (by omega)
    · rename_i g3 g2
      split
      · exact h2
      · have g1 : b.f1 = 1 := by
          by_cases g1 : b.f1 = 1
          · exact g1
          · rw [if_neg g1, if_neg g2] at he
            simp at he
            exact absurd he.1.1.1 g3
        rw [if_pos g1] at he
        simp at he
        exact h2.leap rfl (.inr rfl) (by omega) (by omega)
end Go.Proofs.Ytadaopfcgpfiiaa
namespace Go.Proofs.Ytadaopfcgpfiiaa
open Go.RowKit Go.Proofs.YtadaopfcgpfiiaaW.PrintWords Go.Proofs.YtadaopfcgpfiiaaW.PrintLast Go.Proofs.YtadaopfcgpfiiaaW.PrintMore PCg
set_option linter.unusedVariables false
set_option linter.unusedSimpArgs false
theorem rdi_set (c : List S53) (v : S53) (i : Int) (k : Nat) (h0 : 0 ≤ i) (h1 : i < c.length) : rd_T53 (c.set i.toNat v) (k : Int) = if i = k then v else rd_T53 c k := by
  simp only [rd_T53, List.getD_eq_getElem?_getD, Int.toNat_natCast, List.getElem?_set]
  by_cases e : i = k
  · rw [if_pos e, if_pos (by omega), if_pos (by omega)]; rfl
  · rw [if_neg e, if_neg (by omega)]
/-- an instruction, but for its number -/
def same4 (a b : S53) : Prop := a.f0 = b.f0 ∧ a.f1 = b.f1 ∧ a.f2 = b.f2 ∧ a.f3 = b.f3
theorem fold_patch (starts : List Int) : ∀ (l : List (Int × Int)) (c : List S53), (∀ p ∈ l, 0 ≤ p.1 ∧ p.1 < c.length) →
    (l.foldl (patch1 starts) c).length = c.length ∧ ∀ k : Nat, k < c.length → same4 (rd_T53 (l.foldl (patch1 starts) c) k) (rd_T53 c k) ∧
      ((∃ p ∈ l, p.1 = k ∧ (rd_T53 (l.foldl (patch1 starts) c) k).f4 = rd starts p.2 - k - 1) ∨ ((∀ p ∈ l, p.1 ≠ k) ∧ rd_T53 (l.foldl (patch1 starts) c) k = rd_T53 c k)) := by
  intro l
  induction l with
  | nil => intro c _; exact ⟨rfl, fun k hk => ⟨⟨rfl, rfl, rfl, rfl⟩, .inr ⟨by simp, rfl⟩⟩⟩
  | cons p l ih =>
    intro c hp
    obtain ⟨p0, p1⟩ := hp p (List.mem_cons_self ..)
    have hl : (patch1 starts c p).length = c.length := by simp [patch1]
    obtain ⟨i1, i2⟩ := ih (patch1 starts c p) (fun q hq => by rw [hl]; exact hp q (List.mem_cons_of_mem _ hq))
    simp only [List.foldl_cons]
    refine ⟨i1.trans hl, fun k hk => ?_⟩
    obtain ⟨hs, hc⟩ := i2 k (by omega)
    have hr : rd_T53 (patch1 starts c p) k = if p.1 = k then ⟨(rd_T53 c p.1).f0, (rd_T53 c p.1).f1, (rd_T53 c p.1).f2, (rd_T53 c p.1).f3, rd starts p.2 - p.1 - 1⟩ else rd_T53 c k := rdi_set c _ p.1 k p0 p1
    by_cases e : p.1 = k
    · rw [if_pos e] at hr
      refine ⟨?_, ?_⟩
      · rw [hr, e] at hs
        exact hs
      · rcases hc with ⟨q, hq, e1, e2⟩ | ⟨_, e2⟩
        · exact .inl ⟨q, List.mem_cons_of_mem _ hq, e1, e2⟩
        · exact .inl ⟨p, List.mem_cons_self .., e, by rw [e2, hr, e]⟩
    · rw [if_neg e] at hr
      rw [hr] at hs
      refine ⟨hs, ?_⟩
      rcases hc with ⟨q, hq, e1, e2⟩ | ⟨e1, e2⟩
      · exact .inl ⟨q, List.mem_cons_of_mem _ hq, e1, e2⟩
      · exact .inr ⟨fun q hq => by rcases List.mem_cons.1 hq with rfl | hq; exact e; exact e1 q hq, e2.trans hr⟩
theorem rk_congr : ∀ (a b : List S53) (p : Int), a.map (fun x => x.f0) = b.map (fun x => x.f0) → rk p a = rk p b := by
  intro a
  induction a with
  | nil => intro b p h; cases b with | nil => rfl | cons _ _ => simp at h
  | cons x a ih =>
    intro b p h
    cases b with
    | nil => simp at h
    | cons y b =>
      simp only [List.map_cons, List.cons.injEq] at h
      simp only [rk, h.1, ih b (p + 1) h.2]
theorem map_f0 {a b : List S53} (hl : a.length = b.length) (h : ∀ k : Nat, k < b.length → (rd_T53 a k).f0 = (rd_T53 b k).f0) : a.map (fun x => x.f0) = b.map (fun x => x.f0) := by
  refine List.ext_getElem (by simp [hl]) (fun k h1 h2 => ?_)
  simp only [List.length_map] at h1 h2
  have := h k h2
  rw [rd_Instr_get _ _ h1, rd_Instr_get _ _ h2] at this
  simpa using this
theorem patch_f0 {nb : Int} {st : GSt} (h : GOk nb st) : (patchAll st).map (fun x => x.f0) = st.code.map (fun x => x.f0) := by
  obtain ⟨h1, h2⟩ := fold_patch st.starts st.patches st.code (fun p hp => ⟨(h.pat p hp).1, (h.pat p hp).2.1⟩)
  exact map_f0 h1 (fun k hk => (h2 k hk).1.1)
theorem patch_len {nb : Int} {st : GSt} (h : GOk nb st) : (patchAll st).length = st.code.length :=
  (fold_patch st.starts st.patches st.code (fun p hp => ⟨(h.pat p hp).1, (h.pat p hp).2.1⟩)).1
theorem instrB_br {x y : S53} (h : instrB x = true) (e : same4 y x) (ho : 22 ≤ x.f0 ∧ x.f0 ≤ 24) (h4 : -131072 ≤ y.f4 ∧ y.f4 ≤ 131071) : instrB y = true := by
  obtain ⟨e0, e1, e2, e3⟩ := e
  unfold instrB at h ⊢
  rw [e0, e1, e2, e3]
  have h3 : x.f0 = 22 ∨ x.f0 = 23 ∨ x.f0 = 24 := by omega
  rcases h3 with e | e | e <;> rw [e] at h ⊢ <;> simp [fmtOf] at h ⊢ <;> exact ⟨h.1, h4⟩
theorem objB_patch {nb : Int} {st : GSt} (h : GOk nb st) (hs : ∀ b : Int, 0 ≤ b → b < nb → 0 ≤ rd st.starts b ∧ rd st.starts b < st.code.length) (h1 : 1 ≤ st.code.length) (h2 : st.code.length ≤ 4096) {data : Int} (d0 : 0 ≤ data) (d1 : data ≤ 512) :
    objB (patchAll st) data st.refs = true := by
  have hl := patch_len h
  obtain ⟨_, hf⟩ := fold_patch st.starts st.patches st.code (fun p hp => ⟨(h.pat p hp).1, (h.pat p hp).2.1⟩)
  refine objB_ok (by omega) (by omega) d0 d1 ?_ (fun k hk => ?_)
  · rw [h.refs]
    exact rk_congr _ _ 0 (patch_f0 h).symm
  · rw [hl] at hk
    obtain ⟨hsm, hc⟩ := hf k hk
    have hx : instrB (rd_T53 st.code k) = true := by rw [rd_Instr_get _ _ hk]; exact h.ins _ (List.getElem_mem hk)
    rw [hl]
    rcases hc with ⟨p, hp, e1, e2⟩ | ⟨e1, e2⟩
    · obtain ⟨a, b, c, d, e⟩ := h.pat p hp
      obtain ⟨s0, s1⟩ := hs p.2 d e
      rw [e1] at c
      change (rd_T53 (patchAll st) k).f4 = _ at e2
      refine ⟨instrB_br hx hsm (by omega) ?_, ?_⟩
      · change -131072 ≤ (rd_T53 (patchAll st) k).f4 ∧ (rd_T53 (patchAll st) k).f4 ≤ 131071
        rw [e2]; omega
      · unfold brOk
        split
        · rw [e2]; simp; omega
        · rfl
    · change rd_T53 (patchAll st) k = _ at e2
      rw [e2]
      refine ⟨hx, ?_⟩
      unfold brOk
      rw [if_neg]
      intro hb
      obtain ⟨p, hp, e⟩ := h.brs k hk hb
      exact e1 p hp e
theorem plOk_of {regs : Int} {places : List (Int × Int)} {slots : Int} (h : AllocOk regs places slots) : PlOk regs places := by
  intro v h0 h1
  obtain ⟨hl, s0, s1, hp⟩ := h
  have hm : rdTwo places v ∈ places := by
    simp only [rdTwo, List.getD_eq_getElem?_getD, List.getElem?_eq_getElem (show v.toNat < places.length by omega), Option.getD_some]
    exact List.getElem_mem _
  have := hp _ hm
  omega
theorem rd_Blk_get (l : List S49) (k : Nat) (h : k < l.length) : rd_T49 l (k : Int) = l[k] := by
  simp only [rd_T49, List.getD_eq_getElem?_getD, Int.toNat_natCast, List.getElem?_eq_getElem h, Option.getD_some]
theorem genTo_ok {regs : Int} {arrs : List S44} {blks : List S49} {shared : List S44} (h : irOk regs arrs blks shared = true) {pl : List (Int × Int)} (hp : PlOk regs pl) {sp : Int} (s0 : 0 ≤ sp) (s1 : sp ≤ 1000)
    {m : ByteArray → Int} (hm : ∀ s, 0 ≤ m s ∧ m s ≤ 1000) {st : GSt} (hst : GOk blks.length st) (k : Nat) (hk : k ≤ blks.length) : GOk blks.length (genTo sp pl m blks st k) := by
  induction k with
  | zero => exact hst
  | succ k ih => exact genBlk_ok hp s0 s1 hm (ih (by omega)) k _ ((irOk_facts h).2.2.2.2.2.2 k (by omega))
theorem genStores_ok {sp : Int} (s0 : 0 ≤ sp) (n : Nat) (hn : sp + n ≤ 512) : ∀ x ∈ genStores sp n, okI x ∧ refKind x.f0 = none := by
  intro x hx
  obtain ⟨s, hs, rfl⟩ := List.mem_map.1 hx
  have := List.mem_range.1 hs
  refine ⟨⟨?_, by simp⟩, by simp [refKind]⟩
  simp [instrB, fmtOf, regB]
  omega
theorem genBlk_more {nb regs : Int} {arrs shared : List S44} (sp : Int) (pl : List (Int × Int)) (m : ByteArray → Int) (st : GSt) (k : Int) (b : S49) (hb : blkOk regs nb arrs shared b = true) (hk : nb ≤ k + 1) :
    st.code.length + 1 ≤ (genBlk sp pl m st k b).code.length := by
  have hx := (genCode_ext sp pl m b.f0 st.start).len
  simp only [GSt.start] at hx
  simp only [blkOk, Bool.and_eq_true] at hb
  have he := hb.1
  unfold genBlk
  simp only
  change st.code.length ≤ (genCode sp pl m st.start b.f0).code.length at hx
  generalize genCode sp pl m st.start b.f0 = st2 at *
  unfold endOk tgtOk at he
  split
  · simp [GSt.emit]; omega
  · split
    · split
      · simp [GSt.emit, GSt.leap]; omega
      · simp [GSt.emit, GSt.leap]; omega
    · rename_i g3 g2
      have g1 : b.f1 = 1 := by
        by_cases g1 : b.f1 = 1
        · exact g1
        · rw [if_neg g1, if_neg g2] at he
          simp at he
          exact absurd he.1.1.1 g3
      rw [if_pos g1] at he
      simp at he
      rw [if_neg (by omega)]
      simp [GSt.leap]; omega
/-- every block starts within the code -/
theorem starts_in {regs : Int} {arrs : List S44} {blks : List S49} {shared : List S44} (h : irOk regs arrs blks shared = true) (addr : List Int) (size : Int) (places : List (Int × Int)) (slots : Int) :
    1 ≤ (genTask arrs addr size blks places slots).code.length ∧ ∀ b : Int, 0 ≤ b → b < blks.length → 0 ≤ rd (genTask arrs addr size blks places slots).starts b ∧ rd (genTask arrs addr size blks places slots).starts b < (genTask arrs addr size blks places slots).code.length := by
  have hF := irOk_facts h
  obtain ⟨n, hn⟩ : ∃ n, blks.length = n + 1 := ⟨blks.length - 1, by omega⟩
  have h0 : PInv blks.length (⟨genStores size slots.toNat, [], [], []⟩ : GSt) := ⟨fun p hp => by simp at hp, fun x hx => by simp at hx⟩
  have h1 := genTo_inv h size places (mapTo arrs addr arrs.length) _ h0 n (by omega)
  have hb := hF.2.2.2.2.2.2 n (by omega)
  have hg := genBlk_more size places (mapTo arrs addr arrs.length) (genTo size places (mapTo arrs addr arrs.length) blks ⟨genStores size slots.toNat, [], [], []⟩ n) n _ hb (by omega)
  have hs := (genBlk_sz size places (mapTo arrs addr arrs.length) (genTo size places (mapTo arrs addr arrs.length) blks ⟨genStores size slots.toNat, [], [], []⟩ n) n (rd_T49 blks n)).2.2.1
  have hsl := (genTo_sz size places (mapTo arrs addr arrs.length) blks ⟨genStores size slots.toNat, [], [], []⟩ n).2.2.1
  have e : genTask arrs addr size blks places slots = genBlk size places (mapTo arrs addr arrs.length) (genTo size places (mapTo arrs addr arrs.length) blks ⟨genStores size slots.toNat, [], [], []⟩ n) n (rd_T49 blks n) := by
    unfold genTask
    rw [hn]
    rfl
  rw [e, hs]
  generalize genTo size places (mapTo arrs addr arrs.length) blks ⟨genStores size slots.toNat, [], [], []⟩ n = st at *
  refine ⟨by omega, fun b b0 b1 => ?_⟩
  have hm : rd (st.starts ++ [(st.code.length : Int)]) b ∈ st.starts ++ [(st.code.length : Int)] := mem_rd b0 (by simp at hsl ⊢; omega)
  rcases List.mem_append.1 hm with hm | hm
  · have := h1.2 _ hm
    omega
  · rw [List.mem_singleton.1 hm]
    omega
theorem layA_in {arrs shared : List S44} (h : ∀ k : Nat, k < arrs.length → arrOkAt arrs shared k = true) (h4 : arrs.length ≤ 4) (k : Nat) (hk : k ≤ arrs.length) : 0 ≤ layA arrs k ∧ layA arrs k ≤ 32 * k := by
  induction k with
  | zero => exact ⟨Int.le_refl _, Int.le_refl _⟩
  | succ k ih =>
    have hb := h k (by omega)
    have := ih (by omega)
    simp only [arrOkAt, Bool.and_eq_true, decide_eq_true_eq] at hb
    obtain ⟨⟨⟨b1, b2⟩, _⟩, _⟩ := hb
    unfold layA mx
    rw [if_neg (by omega), w64 (by omega)]
    omega
theorem mapTo_in (arrs : List S44) (addr : List Int) (hb : ∀ k : Nat, k < arrs.length → 0 ≤ rd addr k ∧ rd addr k ≤ 1000) (k : Nat) (hk : k ≤ arrs.length) : ∀ s, 0 ≤ mapTo arrs addr k s ∧ mapTo arrs addr k s ≤ 1000 := by
  induction k with
  | zero => intro s; exact ⟨Int.le_refl _, by simp [mapTo]⟩
  | succ k ih =>
    intro s
    simp only [mapTo]
    split
    · exact hb k (by omega)
    · exact ih (by omega) s
theorem rd_layAll (arrs : List S44) (n k : Nat) (h : k < n) : rd (layAll arrs n) k = layA arrs k := by
  simp [rd, layAll, h]
theorem size_in {regs : Int} {arrs : List S44} {blks : List S49} {shared : List S44} (h : irOk regs arrs blks shared = true) : 0 ≤ layA arrs arrs.length ∧ layA arrs arrs.length ≤ 128 := by
  have hF := irOk_facts h
  have := layA_in hF.2.2.2.2.1 hF.2.2.2.1 arrs.length (Nat.le_refl _)
  have := hF.2.2.2.1
  omega
theorem gOk_task {regs : Int} {arrs : List S44} {blks : List S49} {shared : List S44} (h : irOk regs arrs blks shared = true) {places : List (Int × Int)} {slots : Int} (hA : AllocOk regs places slots)
    (hd : layA arrs arrs.length + slots ≤ 512) : GOk blks.length (genTask arrs (layAll arrs arrs.length) (layA arrs arrs.length) blks places slots) := by
  have hF := irOk_facts h
  have hs := size_in h
  have h0 : GOk blks.length (⟨[], [], [], []⟩ : GSt) := ⟨rfl, fun x hx => by simp at hx, fun k hk => by simp at hk, fun p hp => by simp at hp⟩
  have hsl := hA.2.1
  have h1 := h0.step (gs_emit (l := genStores (layA arrs arrs.length) slots.toNat) (genStores_ok hs.1 _ (by omega)))
  refine genTo_ok h (plOk_of hA) hs.1 (by omega) (mapTo_in arrs _ (fun k hk => ?_) _ (Nat.le_refl _)) (st := ⟨genStores (layA arrs arrs.length) slots.toNat, [], [], []⟩) ?_ blks.length (Nat.le_refl _)
  · rw [rd_layAll _ _ _ hk]
    have := layA_in hF.2.2.2.2.1 hF.2.2.2.1 k (by omega)
    have := hF.2.2.2.1
    omega
  · simpa [GSt.emit] using h1
/-- the object of a valid function is valid -/
theorem objB_task {regs : Int} {arrs : List S44} {blks : List S49} {shared : List S44} (h : irOk regs arrs blks shared = true) {places : List (Int × Int)} {slots : Int} (hA : AllocOk regs places slots)
    (hd : layA arrs arrs.length + slots ≤ 512) (hc : (genTask arrs (layAll arrs arrs.length) (layA arrs arrs.length) blks places slots).code.length ≤ 4096) :
    objB (patchAll (genTask arrs (layAll arrs arrs.length) (layA arrs arrs.length) blks places slots)) (layA arrs arrs.length + slots) (genTask arrs (layAll arrs arrs.length) (layA arrs arrs.length) blks places slots).refs = true := by
  have hs := size_in h
  have hsl := hA.2.1
  obtain ⟨a, b⟩ := starts_in h (layAll arrs arrs.length) (layA arrs arrs.length) places slots
  exact objB_patch (gOk_task h hA hd) b a hc (by omega) hd
theorem sumTo_eq (blks : List S49) : sumTo blks blks.length = (blks.map (fun b => b.f0.length)).sum := by
  have h : ∀ k : Nat, k ≤ blks.length → sumTo blks k = ((blks.take k).map (fun b => b.f0.length)).sum := by
    intro k
    induction k with
    | zero => intro _; rfl
    | succ k ih =>
      intro hk
      rw [sumTo, ih (by omega), List.take_add_one, List.getElem?_eq_getElem (by omega), rd_Blk_get _ _ (by omega)]
      simp only [Option.toList_some, List.map_append, List.map_cons, List.map_nil, List.sum_append, List.sum_cons, List.sum_nil, Nat.add_zero]
  rw [h _ (Nat.le_refl _), List.take_length]
theorem code_small (arrs : List S44) (addr : List Int) (size : Int) (blks : List S49) (places : List (Int × Int)) (slots : Int) :
    (genTask arrs addr size blks places slots).code.length ≤ slots.toNat + 8 * (blks.map (fun b => b.f0.length)).sum + 3 * blks.length := by
  have := (genTo_sz size places (mapTo arrs addr arrs.length) blks ⟨genStores size slots.toNat, [], [], []⟩ blks.length).1
  rw [sumTo_eq] at this
  have hl : (genStores size slots.toNat).length = slots.toNat := by simp [genStores]
  unfold genTask
  simp only [hl] at this
  exact this
end Go.Proofs.Ytadaopfcgpfiiaa
namespace Go.Proofs.Ytadaopfcgpfiiaa
open Go.RowKit Go.Proofs.YtadaopfcgpfiiaaW.PrintWords Go.Proofs.YtadaopfcgpfiiaaW.PrintLast Go.Proofs.YtadaopfcgpfiiaaW.PrintMore PCg
set_option linter.unusedVariables false
set_option linter.unusedSimpArgs false
theorem instrB_op {x : S53} (h : instrB x = true) : 0 ≤ x.f0 ∧ x.f0 < 256 := by
  unfold instrB at h
  cases hf : fmtOf x.f0 with
  | none => rw [hf] at h; cases h
  | some p =>
    unfold fmtOf at hf
    repeat' split at hf
    all_goals first | (cases hf; done) | omega
theorem patch_ops {nb : Int} {st : GSt} (h : GOk nb st) : ∀ x ∈ patchAll st, 0 ≤ x.f0 ∧ x.f0 < 256 := by
  intro x hx
  have h1 : x.f0 ∈ (patchAll st).map (fun x => x.f0) := List.mem_map.2 ⟨x, hx, rfl⟩
  rw [patch_f0 h] at h1
  obtain ⟨y, hy, e⟩ := List.mem_map.1 h1
  rw [← e]
  exact instrB_op (h.ins y hy)
theorem rk_len : ∀ (l : List S53) (p : Int), (rk p l).length ≤ l.length := by
  intro l
  induction l with
  | nil => intro p; exact Nat.le_refl _
  | cons x l ih =>
    intro p
    have := ih (p + 1)
    simp only [rk, List.length_cons]
    split <;> (try simp only [List.length_cons]) <;> omega
/-- what Task answers for a valid function within the bounds of the statements -/
def TaskGood (nm : ByteArray) (regs : Int) (arrs : List S44) (blks : List S49) (w : World) (e : Ending) (w' : World) : Prop :=
  ∃ (st : GSt) (places : List (Int × Int)) (slots : Int) (vc vr : Value), st = genTask arrs (layAll arrs arrs.length) (layA arrs arrs.length) blks places slots ∧ AllocOk regs places slots ∧ e = .returned (.tuple #[.agg #[.string nm, vc, .int .i64 (layA arrs arrs.length + slots), vr], .int .i64 0]) ∧
    Kd.R k53 53 w' w.heap.size (fun _ => True) vc (patchAll st) ∧ Kd.R k105 105 w' w.heap.size (fun _ => True) vr st.refs ∧ Below w.heap.size w w' ∧
    GOk blks.length st ∧ st.code.length ≤ 4096 ∧ st.refs.length ≤ 4096 ∧ objB (patchAll st) (layA arrs arrs.length + slots) st.refs = true
theorem task_good (nm : ByteArray) (regs : Int) (A : Option Addr) (c : Nat) (arrs : List S44) (A3 : Option Addr) (c3 : Nat) (blks : List S49) (w : World)
    (hr : Kd.C k44 w A arrs.length arrs) (hcp : arrs.length ≤ c) (hr3 : Kd.C k49 w A3 blks.length blks) (hcp3 : blks.length ≤ c3)
    (hrg : regs ≤ 60) (hm3 : blks.length ≤ 20) (hsum : (blks.map (fun b => b.f0.length)).sum ≤ 300) (hns : ∀ a ∈ arrs, a.f0.size ≤ maxLen) (hnb : ∀ b ∈ blks, ∀ i ∈ b.f0, i.f5.size ≤ maxLen)
    (hok : irOk regs arrs blks (mentL blks) = true) :
    Calls Try.prog 12 #[.agg #[.string nm, .int .i64 regs, .slice A arrs.length c, .slice A3 blks.length c3]] w (TaskGood nm regs arrs blks w) := by
  have hF := irOk_facts hok
  have hz := size_in hok
  refine (task_small nm regs A c arrs A3 c3 blks w hr hcp hr3 hcp3 (by omega) (by omega) (by omega) hns hnb).mono ?_
  rintro e w' (⟨h, _⟩ | ⟨_, places, slots, hA, hs, hT⟩)
  · rw [hok] at h; cases h
  · have hcs := code_small arrs (layAll arrs arrs.length) (layA arrs arrs.length) blks places slots
    have hs0 := hA.2.1
    rcases hT with ⟨h, _⟩ | ⟨h1, h2, vc, vr, he, hC, hR, hb⟩
    · exfalso; omega
    · have hG := gOk_task hok hA h1
      have hl : (genTask arrs (layAll arrs arrs.length) (layA arrs arrs.length) blks places slots).refs.length ≤ 4096 := by
        have := congrArg List.length hG.refs
        rw [List.length_map] at this
        have := rk_len (genTask arrs (layAll arrs arrs.length) (layA arrs arrs.length) blks places slots).code 0
        omega
      exact ⟨_, places, slots, vc, vr, rfl, hA, he, hC, hR, hb, hG, h2, hl, objB_task hok hA h1 h2⟩
theorem one_box {α : Type} {K : Kd α} {W : World} {b t : Nat} {cs : Array Value} {x : α} (h : W.heap[b]? = some (.cells cs t (0, 0))) (hK : K.K W x cs.toList) : Kd.C K W (some ⟨b, 0, none⟩) 1 [x] := by
  refine ⟨rfl, by omega, fun _ => ⟨⟨b, 0, none⟩, rfl, fun j p hj => ?_⟩⟩
  match j, hj with
  | 0, hj =>
    have hp : x = p := by simpa using hj
    subst hp
    refine ⟨cs.toList, by simpa using K.K_len hK, hK, fun q u hu => ?_⟩
    have ha : (⟨b, 0, none⟩ : Addr).add (0 * K.sz + q) = ⟨b, q, none⟩ := by rw [Nat.zero_mul, Nat.zero_add]; exact add_plain b q
    rw [ha, blk_cell h q]
    simpa using hu
  | j + 1, hj => simp at hj
/-- the block of the chapter's example -/
def awkBlk : S49 := ⟨[⟨10, 0, 0, 0, 2, ⟨#[]⟩⟩], 3, 0, 0, 0⟩
theorem awk_ok : irOk 1 [] [awkBlk] (mentL [awkBlk]) = true := by kernel_rfl
set_option maxRecDepth 100000 in
set_option maxHeartbeats 2000000 in
theorem awk_task (w2 : World) : Calls Try.prog 12 #[.agg #[.string ⟨#[102]⟩, .int .i64 1, .slice none 0 0, .slice (some ⟨w2.heap.size + 1, 0, none⟩) 1 1]]
    ((w2.alloc (.cells #[.int .u8 10, .int .i64 0, .int .i64 0, .int .i64 0, .int .i64 2, .string ⟨#[]⟩] 51)).alloc (.cells #[.slice (some ⟨w2.heap.size, 0, none⟩) 1 1, .int .u8 3, .int .i64 0, .int .i64 0, .int .i64 0] 49))
    (TaskGood ⟨#[102]⟩ 1 [] [awkBlk] ((w2.alloc (.cells #[.int .u8 10, .int .i64 0, .int .i64 0, .int .i64 0, .int .i64 2, .string ⟨#[]⟩] 51)).alloc (.cells #[.slice (some ⟨w2.heap.size, 0, none⟩) 1 1, .int .u8 3, .int .i64 0, .int .i64 0, .int .i64 0] 49))) := by
  have h1 := blk_alloc (blk_new w2 (.cells #[.int .u8 10, .int .i64 0, .int .i64 0, .int .i64 0, .int .i64 2, .string ⟨#[]⟩] 51)) (.cells #[.slice (some ⟨w2.heap.size, 0, none⟩) 1 1, .int .u8 3, .int .i64 0, .int .i64 0, .int .i64 0] 49)
  have h2 := heap_alloc_at (w2.alloc (.cells #[.int .u8 10, .int .i64 0, .int .i64 0, .int .i64 0, .int .i64 2, .string ⟨#[]⟩] 51)) (.cells #[.slice (some ⟨w2.heap.size, 0, none⟩) 1 1, .int .u8 3, .int .i64 0, .int .i64 0, .int .i64 0] 49) (w2.heap.size + 1) (by simp)
  generalize ((w2.alloc (.cells #[.int .u8 10, .int .i64 0, .int .i64 0, .int .i64 0, .int .i64 2, .string ⟨#[]⟩] 51)).alloc (.cells #[.slice (some ⟨w2.heap.size, 0, none⟩) 1 1, .int .u8 3, .int .i64 0, .int .i64 0, .int .i64 0] 49)) = W at *
  have c1 : Kd.C k51 W (some ⟨w2.heap.size, 0, none⟩) 1 [⟨10, 0, 0, 0, 2, ⟨#[]⟩⟩] := one_box h1 (k51_mk W ⟨10, 0, 0, 0, 2, ⟨#[]⟩⟩)
  have c2 : Kd.C k49 W (some ⟨w2.heap.size + 1, 0, none⟩) 1 [awkBlk] := one_box h2 (k49_mk W awkBlk (Nat.le_refl 1) c1)
  refine task_good ⟨#[102]⟩ 1 none 0 [] (some ⟨w2.heap.size + 1, 0, none⟩) 1 [awkBlk] W ⟨rfl, by simp, by simp⟩ (Nat.le_refl _) c2 (Nat.le_refl _) (by omega) (by decide) (by decide) (by simp) ?_ awk_ok
  intro b hb i hi
  rw [List.mem_singleton.1 hb] at hi
  rw [List.mem_singleton.1 hi]
  exact Nat.zero_le _
set_option maxRecDepth 100000 in
set_option maxHeartbeats 2000000 in
theorem awake_any (w : World) : Calls Try.prog 10 #[] w fun e w' => e = .returned (.bool true) ∧ Below w.heap.size w w' := by
  go_enter Try.func10, Try.ntmps10
  have HCON := Aside0.mk (codegen_Constant.calls 10 3 131072 _ w const_awake)
  go_wp2_with fail
  refine HCON.out.mono ?_
  rintro e w2 ⟨vl, rfl, hRl, hb2⟩
  obtain ⟨Al, cl, hv⟩ := Kd.R_slice hRl
  subst hv
  have HRL := Aside0.mk hRl
  have HB2 := Aside0.mk hb2
  clear hRl hb2
  go_wp2_with fail
  refine (awk_task w2).mono ?_
  rintro e w3 ⟨st, places, slots, vc, vr, _, _, rfl, hC, hR, hb3, hG, hl, hl2, hV⟩
  obtain ⟨Ac, cc, rfl⟩ := Kd.R_slice hC
  obtain ⟨Ar, cr, rfl⟩ := Kd.R_slice hR
  obtain ⟨d, hd⟩ : ∃ d, layA [] ([] : List S44).length + slots = d := ⟨_, rfl⟩
  rw [hd] at hV
  rw [hd]
  obtain ⟨_, hcc, hCC⟩ := Kd.R_reads' hC
  obtain ⟨_, hcr, hCR⟩ := Kd.R_reads' hR
  have HB3 := Aside0.mk (below_step (below_alloc (below_alloc HB2.out _) _) hb3)
  have hl0 := patch_len hG
  have hok := fun W (hB : Below w3.heap.size w3 W) => cgValid_any ⟨#[102]⟩ Ac cc (patchAll st) d Ar cr st.refs W (Kd.C_below hCC hB) hcc (Kd.C_below hCR hB) hcr (by omega) (by omega) (patch_ops hG)
  rw [hV] at hok
  have HOK := Aside0.mk hok; clear hok
  generalize (patchAll st).length = n1 at *
  generalize st.refs.length = n2 at *
  obtain ⟨g, cells, hAl, hg⟩ := code_addr HRL.out (by decide)
  subst hAl
  obtain ⟨_, _, hCL⟩ := Kd.R_reads' HRL.out
  obtain ⟨ad, hA, a0, a1, a2, a3, a4⟩ := at_T53 hCL 0 (by decide) (by decide)
  obtain ⟨ad', hA', b0, b1, b2, b3, b4⟩ := at_T53 hCL 2 (by decide) (by decide)
  cases hA; cases hA'
  have hgl := blk_lt hg
  have hb23 : Below w2.heap.size w2 w3 := below_step (below_alloc (below_alloc (Below.refl _ _) _) _) hb3
  have hz3 := hb23.size
  have mv : ∀ i v, w2.cell? ⟨g, i, none⟩ = some v → w3.cell? ⟨g, i, none⟩ = some v := fun i v h => (hb23.cell hgl).trans h
  replace a0 : w3.cell? ⟨g, 0, none⟩ = some (.int .u8 14) := mv _ _ a0
  replace a1 : w3.cell? ⟨g, 1, none⟩ = some (.int .i64 3) := mv _ _ a1
  replace a2 : w3.cell? ⟨g, 2, none⟩ = some (.int .i64 0) := mv _ _ a2
  replace a3 : w3.cell? ⟨g, 3, none⟩ = some (.int .i64 0) := mv _ _ a3
  replace a4 : w3.cell? ⟨g, 4, none⟩ = some (.int .i64 8) := mv _ _ a4
  replace b0 : w3.cell? ⟨g, 10, none⟩ = some (.int .u8 17) := mv _ _ b0
  replace b1 : w3.cell? ⟨g, 11, none⟩ = some (.int .i64 3) := mv _ _ b1
  replace b2 : w3.cell? ⟨g, 12, none⟩ = some (.int .i64 3) := mv _ _ b2
  replace b3 : w3.cell? ⟨g, 13, none⟩ = some (.int .i64 0) := mv _ _ b3
  replace b4 : w3.cell? ⟨g, 14, none⟩ = some (.int .i64 0) := mv _ _ b4
  have hg3 : g < w3.heap.size := by omega
  clear hb3 hC hR hCC hCR hCL hg mv hG hV hb23 hl0 hl hl2 hcc hcr hz3 hgl hd
  go_wp2_with fail
  refine (HOK.out _ (below_alloc (Below.refl _ _) _)).mono ?_
  rintro e w4 ⟨rfl, hb4⟩
  have HB4 := Aside0.mk (below_step (below_alloc HB3.out _) hb4)
  go_wp2
  go_ret
  exact ⟨rfl, HB4.out⟩
end Go.Proofs.Ytadaopfcgpfiiaa
namespace Go.Proofs.Ytadaopfcgpfiiaa
open Go.RowKit Go.Proofs.YtadaopfcgpfiiaaW.PrintWords Go.Proofs.YtadaopfcgpfiiaaW.PrintLast Go.Proofs.YtadaopfcgpfiiaaW.PrintMore PCg
open Go.ChangeShapes Go.WideShapes Go.ChangeAt
set_option linter.unusedVariables false
set_option linter.unusedSimpArgs false
theorem fld1 {H : Type} {enc : TypeId × Value → H} {P : Program} {w : World} {base : Nat} {sp : Nat → Bool} {held : Bool} {fs : Array Field} {xs : List (DataW H × List MemPlace)} {n : Nat} {cs : List Value}
    (hf : ∀ (i : Nat) (f : Field), fs[i]? = some f → DataW.trod enc P w base sp held n f.type ((cs.drop f.offset).take (P.cellsOf f.type)) = xs[i]?) (hlen : xs.length = fs.size)
    (i : Nat) (f : Field) (hi : fs[i]? = some f) (h1 : P.cellsOf f.type = 1) (c : Value) (hc : cs[f.offset]? = some c) : ∃ y, DataW.trod enc P w base sp held n f.type [c] = some y := by
  have h := hf i f hi
  have hlt : i < fs.size := by
    rcases Nat.lt_or_ge i fs.size with h | h
    · exact h
    · rw [Array.getElem?_eq_none h] at hi; cases hi
  rw [h1, List.getElem?_eq_getElem (by omega)] at h
  obtain ⟨hcl, hce⟩ := List.getElem?_eq_some_iff.1 hc
  rw [List.drop_eq_getElem_cons hcl, hce] at h
  exact ⟨_, h⟩
/-- cells of a type read as a value of a kind -/
structure TR {α : Type} (K : Kd α) (good : α → Prop) (t : TypeId) : Prop where
  sz : Try.prog.cellsOf t = K.sz
  get : ∀ {H : Type} {enc : TypeId × Value → H} {w : World} {base : Nat} {sp : Nat → Bool} {held : Bool} {fuel : Nat} {cs : List Value} {x : DataW H × List MemPlace},
    DataW.trod enc Try.prog w base sp held fuel t cs = some x → ∃ a, K.K w a cs ∧ good a
theorem TR.slice {α : Type} [Inhabited α] {K : Kd α} {good : α → Prop} {t s : TypeId} (h : TR K good t) (hs : Try.prog.underlying s = some (.slice t)) {H : Type} {enc : TypeId × Value → H} {w : World} {base : Nat} {sp : Nat → Bool} {held : Bool} {fuel : Nat} {cs : List Value} {x : DataW H × List MemPlace}
    (hx : DataW.trod enc Try.prog w base sp held fuel s cs = some x) : ∃ (A : Option Addr) (c : Nat) (xs : List α), cs = [.slice A xs.length c] ∧ xs.length ≤ c ∧ c ≤ maxLen ∧ Kd.C K w A xs.length xs ∧ ∀ a ∈ xs, good a := by
  rcases Deep.open_slice hs hx with ⟨rfl, _⟩ | ⟨a, len, cap, m, n, D, Pl, rfl, hb, hl, hm, hmm, _, hel⟩
  · exact ⟨none, 0, [], rfl, Nat.le_refl _, Nat.zero_le _, ⟨rfl, by simp, by simp⟩, by simp⟩
  · have hlm : len ≤ m := by rw [hmm]; split <;> omega
    have h1 : ∀ i, i < len → ∃ y : α × List Value, K.K w y.1 y.2 ∧ good y.1 ∧ w.cells? base (a.add (i * Try.prog.cellsOf t)) (Try.prog.cellsOf t) = some y.2 := fun i hi => by
      obtain ⟨cs', hc, ht⟩ := hel i (by omega)
      obtain ⟨y, hK, hg⟩ := h.get ht
      exact ⟨(y, cs'), hK, hg, hc⟩
    obtain ⟨F, hF⟩ := Deep.choose_lt h1
    have hmx : maxLen ≤ 9223372036854775807 := by decide
    refine ⟨some a, cap, (List.range len).map (fun i => (F i).1), by simp, by simpa using hl, hm, ⟨by simp, by simp; omega, fun _ => ⟨a, rfl, fun j p hj => ?_⟩⟩, fun y hy => ?_⟩
    · simp only [List.getElem?_map] at hj
      obtain ⟨i, hi, rfl⟩ := Option.map_eq_some_iff.1 hj
      obtain ⟨hjl, hji⟩ := List.getElem?_eq_some_iff.1 hi
      simp at hjl hji
      subst hji
      obtain ⟨hK, _, hc⟩ := hF j hjl
      refine ⟨(F j).2, K.K_len hK, hK, fun q u hu => ?_⟩
      obtain ⟨_, hl2, hcell⟩ := World.cells?_some hc
      have hq : q < Try.prog.cellsOf t := by
        have := (List.getElem?_eq_some_iff.1 hu).1
        omega
      have := hcell q hq
      rw [Deep.add_add, h.sz] at this
      rw [this]
      exact hu
    · obtain ⟨i, hi, rfl⟩ := List.mem_map.1 hy
      exact (hF i (List.mem_range.1 hi)).2.1
instance : Inhabited S44 := ⟨z44⟩
instance : Inhabited S51 := ⟨z51⟩
instance : Inhabited S49 := ⟨z49⟩
instance : Inhabited S105 := ⟨z105⟩
instance : Inhabited S53 := ⟨z53⟩
def gArr (a : S44) : Prop := a.f0.size ≤ maxLen ∧ (Lit.int .i64 a.f1).wf = true
def gIns (a : S51) : Prop := a.f5.size ≤ maxLen
def gBlk (a : S49) : Prop := a.f0.length ≤ maxLen ∧ ∀ i ∈ a.f0, gIns i
set_option maxRecDepth 100000 in
theorem tr_Arr : TR k44 gArr 44 := ⟨by kernel_rfl, fun {H enc w base sp held fuel cs x} h => by
  obtain ⟨xs, n, _, rfl, hl, hlen, hf⟩ := DataW.trod_struct Try.underlying44 h
  have hl' : cs.length = 2 := hl.trans (by kernel_rfl)
  match cs, hl' with
  | [c0, c1], _ =>
    obtain ⟨y0, g0⟩ := fld1 hf hlen 0 _ rfl (by kernel_rfl) _ rfl
    obtain ⟨y1, g1⟩ := fld1 hf hlen 1 _ rfl (by kernel_rfl) _ rfl
    obtain ⟨s0, e0, _, b0⟩ := DataW.trod_string Try.underlying9 g0
    obtain ⟨s1, e1, _, b1⟩ := DataW.trod_int Try.underlying3 g1
    cases e0; cases e1
    exact ⟨⟨s0, s1⟩, k44_mk w ⟨s0, s1⟩, b0, b1⟩⟩
set_option maxRecDepth 100000 in
theorem tr_Ins : TR k51 gIns 51 := ⟨by kernel_rfl, fun {H enc w base sp held fuel cs x} h => by
  obtain ⟨xs, n, _, rfl, hl, hlen, hf⟩ := DataW.trod_struct Try.underlying51 h
  have hl' : cs.length = 6 := hl.trans (by kernel_rfl)
  match cs, hl' with
  | [c0, c1, c2, c3, c4, c5], _ =>
    obtain ⟨y0, g0⟩ := fld1 hf hlen 0 _ rfl (by kernel_rfl) _ rfl
    obtain ⟨y1, g1⟩ := fld1 hf hlen 1 _ rfl (by kernel_rfl) _ rfl
    obtain ⟨y2, g2⟩ := fld1 hf hlen 2 _ rfl (by kernel_rfl) _ rfl
    obtain ⟨y3, g3⟩ := fld1 hf hlen 3 _ rfl (by kernel_rfl) _ rfl
    obtain ⟨y4, g4⟩ := fld1 hf hlen 4 _ rfl (by kernel_rfl) _ rfl
    obtain ⟨y5, g5⟩ := fld1 hf hlen 5 _ rfl (by kernel_rfl) _ rfl
    obtain ⟨s0, e0, _, b0⟩ := DataW.trod_int Try.underlying5 g0
    obtain ⟨s1, e1, _, b1⟩ := DataW.trod_int Try.underlying3 g1
    obtain ⟨s2, e2, _, b2⟩ := DataW.trod_int Try.underlying3 g2
    obtain ⟨s3, e3, _, b3⟩ := DataW.trod_int Try.underlying3 g3
    obtain ⟨s4, e4, _, b4⟩ := DataW.trod_int Try.underlying3 g4
    obtain ⟨s5, e5, _, b5⟩ := DataW.trod_string Try.underlying9 g5
    cases e0; cases e1; cases e2; cases e3; cases e4; cases e5
    exact ⟨⟨s0, s1, s2, s3, s4, s5⟩, k51_mk w ⟨s0, s1, s2, s3, s4, s5⟩, b5⟩⟩
set_option maxRecDepth 100000 in
theorem tr_Blk : TR k49 gBlk 49 := ⟨by kernel_rfl, fun {H enc w base sp held fuel cs x} h => by
  obtain ⟨xs, n, _, rfl, hl, hlen, hf⟩ := DataW.trod_struct Try.underlying49 h
  have hl' : cs.length = 5 := hl.trans (by kernel_rfl)
  match cs, hl' with
  | [c0, c1, c2, c3, c4], _ =>
    obtain ⟨y0, g0⟩ := fld1 hf hlen 0 _ rfl (by kernel_rfl) _ rfl
    obtain ⟨y1, g1⟩ := fld1 hf hlen 1 _ rfl (by kernel_rfl) _ rfl
    obtain ⟨y2, g2⟩ := fld1 hf hlen 2 _ rfl (by kernel_rfl) _ rfl
    obtain ⟨y3, g3⟩ := fld1 hf hlen 3 _ rfl (by kernel_rfl) _ rfl
    obtain ⟨y4, g4⟩ := fld1 hf hlen 4 _ rfl (by kernel_rfl) _ rfl
    obtain ⟨A, c, l, e0, hlc, hcm, hC, hg⟩ := tr_Ins.slice Try.underlying47 g0
    obtain ⟨s1, e1, _, b1⟩ := DataW.trod_int Try.underlying5 g1
    obtain ⟨s2, e2, _, b2⟩ := DataW.trod_int Try.underlying3 g2
    obtain ⟨s3, e3, _, b3⟩ := DataW.trod_int Try.underlying3 g3
    obtain ⟨s4, e4, _, b4⟩ := DataW.trod_int Try.underlying3 g4
    cases e0; cases e1; cases e2; cases e3; cases e4
    exact ⟨⟨l, s1, s2, s3, s4⟩, k49_mk w ⟨l, s1, s2, s3, s4⟩ hlc hC, by simp only [gBlk]; omega, hg⟩⟩
set_option maxRecDepth 100000 in
/-- an argument: a slice -/
theorem arg_slice {α : Type} [Inhabited α] {K : Kd α} {good : α → Prop} {t s : TypeId} (h : TR K good t) (hs : Try.prog.underlying s = some (.slice t)) {H : Type} {enc : TypeId × Value → H} {w : World} {base b0 : Nat} {sp : Nat → Bool} {held : Bool} {r : Reach} {v : Value} {d : DataW H} {p : List MemPlace}
    (hv : Value.okWide Try.prog w r b0 s v) (hx : DataW.Trod enc Try.prog w base sp held s v d p) : ∃ (A : Option Addr) (c : Nat) (xs : List α), v = .slice A xs.length c ∧ xs.length ≤ c ∧ c ≤ maxLen ∧ Kd.C K w A xs.length xs ∧ ∀ a ∈ xs, good a := by
  obtain ⟨a, len, cap, rfl⟩ := okWide_slice hs hv
  obtain ⟨fuel, hf⟩ := hx
  obtain ⟨A, c, xs, e, h1⟩ := h.slice hs hf
  simp [Value.cells] at e
  obtain ⟨rfl, rfl, rfl⟩ := e
  exact ⟨_, _, xs, rfl, h1⟩
set_option maxRecDepth 100000 in
/-- an argument: a function of the intermediate language -/
theorem arg_func {H : Type} {enc : TypeId × Value → H} {w : World} {base b0 : Nat} {sp : Nat → Bool} {held : Bool} {r : Reach} {v : Value} {d : DataW H} {p : List MemPlace}
    (hv : Value.okWide Try.prog w r b0 25 v) (hx : DataW.Trod enc Try.prog w base sp held 25 v d p) :
    ∃ (nm : ByteArray) (regs : Int) (A : Option Addr) (c : Nat) (arrs : List S44) (A3 : Option Addr) (c3 : Nat) (blks : List S49), v = .agg #[.string nm, .int .i64 regs, .slice A arrs.length c, .slice A3 blks.length c3] ∧ nm.size ≤ maxLen ∧
      (arrs.length ≤ c ∧ c ≤ maxLen ∧ Kd.C k44 w A arrs.length arrs ∧ ∀ a ∈ arrs, gArr a) ∧ blks.length ≤ c3 ∧ c3 ≤ maxLen ∧ Kd.C k49 w A3 blks.length blks ∧ ∀ a ∈ blks, gBlk a := by
  obtain ⟨cs, rfl, hsz⟩ := okWide_struct Try.underlying25 hv
  obtain ⟨fuel, h⟩ := hx
  obtain ⟨xs, n, _, _, hl, hlen, hf⟩ := DataW.trod_struct Try.underlying25 h
  have hs4 : cs.size = 4 := hsz.trans (by kernel_rfl)
  obtain ⟨c0, c1, c2, c3, rfl⟩ : ∃ c0 c1 c2 c3, cs = #[c0, c1, c2, c3] := by
    obtain ⟨l⟩ := cs
    match l, hs4 with
    | [c0, c1, c2, c3], _ => exact ⟨c0, c1, c2, c3, rfl⟩
  obtain ⟨y0, g0⟩ := fld1 hf hlen 0 _ rfl (by kernel_rfl) _ rfl
  obtain ⟨y1, g1⟩ := fld1 hf hlen 1 _ rfl (by kernel_rfl) _ rfl
  obtain ⟨y2, g2⟩ := fld1 hf hlen 2 _ rfl (by kernel_rfl) _ rfl
  obtain ⟨y3, g3⟩ := fld1 hf hlen 3 _ rfl (by kernel_rfl) _ rfl
  obtain ⟨s0, e0, _, b0⟩ := DataW.trod_string Try.underlying9 g0
  obtain ⟨s1, e1, _, b1⟩ := DataW.trod_int Try.underlying3 g1
  obtain ⟨A, c, l, e2, q2⟩ := tr_Arr.slice Try.underlying22 g2
  obtain ⟨A3, c3', l3, e3, q3⟩ := tr_Blk.slice Try.underlying23 g3
  cases e0; cases e1; cases e2; cases e3
  exact ⟨s0, s1, A, c, l, A3, c3', l3, rfl, b0, q2, q3⟩
end Go.Proofs.Ytadaopfcgpfiiaa
