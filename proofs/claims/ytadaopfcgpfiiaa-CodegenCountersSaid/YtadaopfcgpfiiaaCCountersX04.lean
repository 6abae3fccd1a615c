/- Lemmas: what the theorem of the claim's last text needs, joined by a program out of the seat's texts Q5, T1, T2, T3. -/
import Derived.Test.YtadaopfcgpfiiaaCCountersX02
import Derived.Test.YtadaopfcgpfiiaaBaseX17
import Derived.Maps.Own
import Derived.Maps.OwnOps
import Derived.Maps.Views
import Derived.Test.YtadaopfcgpfiiaaCCountersX03
import Derived.Test.YtadaopfcgpfiiaaBaseX27
import Derived.Test.YtadaopfcgpfiiaaBaseX08
import Derived.Test.YtadaopfcgpfiiaaCCountersX00
namespace Go.Proofs.Ytadaopfcgpfiiaa
open Go.RowKit Go.Proofs.YtadaopfcgpfiiaaW.PrintWords Go.Proofs.YtadaopfcgpfiiaaW.PrintLast Go.Proofs.YtadaopfcgpfiiaaW.PrintMore PCg
set_option linter.unusedVariables false
set_option linter.unusedSimpArgs false
theorem short_go (l : List S44) (hl : l.length ≤ 1000) : ∀ n j fuel : Nat, j + n = l.length → n < fuel → ∃ b, ontimelaw21_short.l0 fuel l (j : Int) = some b := by
  intro n
  induction n with
  | zero =>
    intro j fuel hj hf
    obtain ⟨f, rfl⟩ : ∃ f, fuel = f + 1 := ⟨fuel - 1, by omega⟩
    unfold ontimelaw21_short.l0
    rw [if_neg (by omega)]
    exact ⟨_, rfl⟩
  | succ n ih =>
    intro j fuel hj hf
    obtain ⟨f, rfl⟩ : ∃ f, fuel = f + 1 := ⟨fuel - 1, by omega⟩
    unfold ontimelaw21_short.l0
    rw [if_pos (by omega), if_pos (by omega)]
    split
    · exact ⟨_, rfl⟩
    · rw [w64 (by omega), show (j : Int) + 1 = ((j + 1 : Nat) : Int) by omega]
      exact ih (j + 1) f (by omega) (by omega)
theorem short_f (l : List S44) (hl : l.length ≤ 90) : ∃ b, ontimelaw21_short.f 100 l = some b := short_go l (by omega) l.length 0 100 (by omega) (by omega)
theorem short_any (A : Option Addr) (c : Nat) (l : List S44) (hl : l.length ≤ 90) (hc : l.length ≤ c) : ∃ b, ∀ W, Kd.C k44 W A l.length l → Calls Try.prog 19 #[.slice A l.length c] W fun e w' => e = .returned (.bool b) ∧ Below W.heap.size W w' := by
  obtain ⟨b, h⟩ := short_f l hl
  exact ⟨b, fun W hC => (ontimelaw21_short.calls _ A c l b W hC hc h).mono fun e w' h => ⟨h.1, h.2.below⟩⟩
end Go.Proofs.Ytadaopfcgpfiiaa
namespace Go.Proofs.Ytadaopfcgpfiiaa
open Go.RowKit Go.Proofs.YtadaopfcgpfiiaaW.PrintWords Go.Proofs.YtadaopfcgpfiiaaW.PrintLast Go.Proofs.YtadaopfcgpfiiaaW.PrintMore PCg
set_option linter.unusedVariables false
set_option linter.unusedSimpArgs false
def encI (x : S53) : Value := .agg #[.int .u8 x.f0, .int .i64 x.f1, .int .i64 x.f2, .int .i64 x.f3, .int .i64 x.f4]
def eqIb (x y : S53) : Bool := x.f0 == y.f0 && (x.f1 == y.f1 && (x.f2 == y.f2 && (x.f3 == y.f3 && x.f4 == y.f4)))
theorem eqIb_iff {x y : S53} : eqIb x y = true ↔ x = y := by
  obtain ⟨a0, a1, a2, a3, a4⟩ := x
  obtain ⟨b0, b1, b2, b3, b4⟩ := y
  simp [eqIb]
instance : DecidableEq S53 := fun x y => decidable_of_iff (eqIb x y = true) eqIb_iff
theorem encI_inj {x y : S53} (h : encI x = encI y) : x = y := by
  obtain ⟨a0, a1, a2, a3, a4⟩ := x
  obtain ⟨b0, b1, b2, b3, b4⟩ := y
  simp [encI] at h
  obtain ⟨rfl, rfl, rfl, rfl, rfl⟩ := h
  rfl
theorem eqA_Instr (d : Nat) (w : World) (x y : S53) : (Op.equalIn (d + 2) 53 (encI x) (encI y)).run Try.prog w = .ok (eqIb x y) w := by
  refine eqA_of Try.underlying53 (by kernel_rfl) ?_
  refine eqf_cons (by rfl) (by go_simp; rfl) (by go_simp; rfl) (by go_simp) ?_
  refine eqf_cons (by rfl) (by go_simp; rfl) (by go_simp; rfl) (by go_simp) ?_
  refine eqf_cons (by rfl) (by go_simp; rfl) (by go_simp; rfl) (by go_simp) ?_
  refine eqf_cons (by rfl) (by go_simp; rfl) (by go_simp; rfl) (by go_simp) ?_
  exact eqf_last (by rfl) (by go_simp; rfl) (by go_simp; rfl) (by go_simp)
theorem eq_Instr (w : World) (x y : S53) : (Op.equal 53 (encI x) (encI y)).run Try.prog w = .ok (decide (x = y)) w := by
  have h := eqA_Instr 9998 w x y
  have e : eqIb x y = decide (x = y) := by
    rw [Bool.eq_iff_iff, eqIb_iff, decide_eq_true_iff]
  rw [e] at h
  exact h
theorem ck_field (e : Bool) (w : World) (n : Nat) (t : TypeId) (q : IntKind) (v : Int) (ht : Try.prog.underlying t = some (.int q)) : (Instr.checkKey e (n + 1) t (.int q v)).run Try.prog w = .ok () w := by
  unfold Instr.checkKey
  simp only [Sem.run_bind, run_underlying ht, Result.andThen_ok]
  rfl
theorem ck_Instr (e : Bool) (w : World) (x : S53) : (Instr.checkKey e 10000 53 (encI x)).run Try.prog w = .ok () w := by
  show (Instr.checkKey e (9999 + 1) 53 (encI x)).run Try.prog w = .ok () w
  have p0 : (part 5 #[.int .u8 x.f0, .int .i64 x.f1, .int .i64 x.f2, .int .i64 x.f3, .int .i64 x.f4] 0).run Try.prog w = .ok (.int .u8 x.f0) w := by go_simp
  have p1 : (part 3 #[.int .u8 x.f0, .int .i64 x.f1, .int .i64 x.f2, .int .i64 x.f3, .int .i64 x.f4] 1).run Try.prog w = .ok (.int .i64 x.f1) w := by go_simp
  have p2 : (part 3 #[.int .u8 x.f0, .int .i64 x.f1, .int .i64 x.f2, .int .i64 x.f3, .int .i64 x.f4] 2).run Try.prog w = .ok (.int .i64 x.f2) w := by go_simp
  have p3 : (part 3 #[.int .u8 x.f0, .int .i64 x.f1, .int .i64 x.f2, .int .i64 x.f3, .int .i64 x.f4] 3).run Try.prog w = .ok (.int .i64 x.f3) w := by go_simp
  have p4 : (part 3 #[.int .u8 x.f0, .int .i64 x.f1, .int .i64 x.f2, .int .i64 x.f3, .int .i64 x.f4] 4).run Try.prog w = .ok (.int .i64 x.f4) w := by go_simp
  have q0 : ∀ v, (Instr.checkKey e 9999 5 (.int .u8 v)).run Try.prog w = .ok () w := fun v => ck_field e w 9998 5 .u8 v Try.underlying5
  have q1 : ∀ v, (Instr.checkKey e 9999 3 (.int .i64 v)).run Try.prog w = .ok () w := fun v => ck_field e w 9998 3 .i64 v Try.underlying3
  unfold Instr.checkKey encI
  simp only [Sem.run_bind, run_underlying Try.underlying53, Result.andThen_ok]
  simp [p0, p1, p2, p3, p4, q0, q1]
/-- the number at a key -/
def bal : List (S53 × Int) → S53 → Int
  | [], _ => 0
  | p :: l, k => if p.1 = k then p.2 else bal l k
theorem bal_none {k : S53} : ∀ {l : List (S53 × Int)}, (∀ p ∈ l, p.1 ≠ k) → bal l k = 0 := by
  intro l
  induction l with
  | nil => intro _; rfl
  | cons p l ih => intro h; simp only [bal, if_neg (h p (List.mem_cons_self ..))]; exact ih (fun q hq => h q (List.mem_cons_of_mem _ hq))
theorem bal_at {k : S53} {v : Int} : ∀ {l : List (S53 × Int)} {j : Nat}, l[j]? = some (k, v) → (∀ p ∈ l.take j, p.1 ≠ k) → bal l k = v := by
  intro l
  induction l with
  | nil => intro j h _; simp at h
  | cons p l ih =>
    intro j h hn
    cases j with
    | zero =>
      have : p = (k, v) := by simpa using h
      subst this
      simp [bal]
    | succ j =>
      simp only [bal, if_neg (hn p (by simp))]
      exact ih (by simpa using h) (fun q hq => hn q (by simp [hq]))
theorem bal_append {k s : S53} {v : Int} : ∀ {l : List (S53 × Int)}, (∀ p ∈ l, p.1 ≠ k) → bal (l ++ [(k, v)]) s = if s = k then v else bal l s := by
  intro l
  induction l with
  | nil => intro _; simp only [List.nil_append, bal, eq_comm]
  | cons p l ih =>
    intro h
    simp only [List.cons_append, bal]
    rw [ih (fun q hq => h q (List.mem_cons_of_mem _ hq))]
    have := h p (List.mem_cons_self ..)
    by_cases e : p.1 = s
    · simp only [if_pos e]
      rw [if_neg (by rintro rfl; exact this e)]
    · simp only [if_neg e]
theorem bal_set {k s : S53} {v v' : Int} : ∀ {l : List (S53 × Int)} {j : Nat}, l[j]? = some (k, v) → (∀ p ∈ l.take j, p.1 ≠ k) → bal (l.set j (k, v')) s = if s = k then v' else bal l s := by
  intro l
  induction l with
  | nil => intro j h _; simp at h
  | cons p l ih =>
    intro j h hn
    cases j with
    | zero =>
      have : p = (k, v) := by simpa using h
      subst this
      simp only [List.set_cons_zero, bal]
      by_cases e : k = s
      · subst e; simp
      · simp only [if_neg e, if_neg (Ne.symm e)]
    | succ j =>
      have hp : p.1 ≠ k := hn p (by simp)
      simp only [List.set_cons_succ, bal]
      rw [ih (by simpa using h) (fun q hq => hn q (by simp [hq]))]
      by_cases e : p.1 = s
      · simp only [if_pos e]
        rw [if_neg (by rintro rfl; exact hp e)]
      · simp only [if_neg e]
/-- the entries are l -/
def IKeyed (es : Array MapEntry) (l : List (S53 × Int)) : Prop := es.toList.map (fun e => (e.key, e.val)) = l.map (fun p => (encI p.1, Value.int .i64 p.2))
theorem fa_run (w : World) (k : S53) : ∀ (es : List MapEntry) (l : List (S53 × Int)) (i : Nat), es.map (fun e => (e.key, e.val)) = l.map (fun p => (encI p.1, Value.int .i64 p.2)) →
    ((∀ p ∈ l, p.1 ≠ k) ∧ (Instr.findAsking 53 (encI k) es i).run Try.prog w = .ok none w) ∨
    ∃ j v, l[j]? = some (k, v) ∧ (∀ p ∈ l.take j, p.1 ≠ k) ∧ (Instr.findAsking 53 (encI k) es i).run Try.prog w = .ok (some (i + j, .int .i64 v)) w := by
  intro es
  induction es with
  | nil =>
    intro l i h
    have : l = [] := by simpa using h.symm
    subst this
    exact .inl ⟨by simp, by simp [Instr.findAsking]⟩
  | cons e es ih =>
    intro l i h
    cases l with
    | nil => simp at h
    | cons p l =>
      simp only [List.map_cons, List.cons.injEq, Prod.mk.injEq] at h
      obtain ⟨⟨hk, hv⟩, hr⟩ := h
      have heq := eq_Instr w k p.1
      unfold Instr.findAsking
      simp only [Sem.run_bind, hk, hv, heq, Result.andThen_ok]
      by_cases e1 : k = p.1
      · right
        exact ⟨0, p.2, by simp [e1], by simp, by simp [e1]⟩
      · simp only [e1, decide_false, Bool.false_eq_true, if_false]
        rcases ih l (i + 1) hr with ⟨h1, h2⟩ | ⟨j, v, h1, h2, h3⟩
        · left
          exact ⟨fun q hq => by rcases List.mem_cons.1 hq with rfl | hq; exact Ne.symm e1; exact h1 q hq, h2⟩
        · right
          refine ⟨j + 1, v, by simpa using h1, fun q hq => ?_, by rw [h3, show i + (j + 1) = i + 1 + j from by omega]⟩
          simp only [List.take_succ_cons, List.mem_cons] at hq
          rcases hq with rfl | hq
          · exact Ne.symm e1
          · exact h2 q hq
theorem fk_run (w : World) (k : S53) {es : Array MapEntry} {l : List (S53 × Int)} (h : IKeyed es l) :
    ((∀ p ∈ l, p.1 ≠ k) ∧ (Instr.findKey 53 (encI k) es.toList).run Try.prog w = .ok none w) ∨
    ∃ j v, l[j]? = some (k, v) ∧ (∀ p ∈ l.take j, p.1 ≠ k) ∧ (Instr.findKey 53 (encI k) es.toList).run Try.prog w = .ok (some (j, .int .i64 v)) w := by
  have hf : (Instr.findKey 53 (encI k) es.toList).run Try.prog w = (Instr.findAsking 53 (encI k) es.toList 0).run Try.prog w := by
    unfold Instr.findKey
    simp only [Sem.run_bind, run_underlying Try.underlying53, Result.andThen_ok]
    cases es.toList with
    | nil => simp [Instr.findNow, Instr.findAsking]
    | cons e es => simp [Instr.findNow, Instr.sameNow, encI]
  rw [hf]
  rcases fa_run w k es.toList l 0 h with h | ⟨j, v, h1, h2, h3⟩
  · exact .inl h
  · exact .inr ⟨j, v, h1, h2, by rw [h3, Nat.zero_add]⟩
/-- block mb of w is a map whose entries are l -/
def IMap (w : World) (mb : Nat) (l : List (S53 × Int)) : Prop := ∃ es clock, w.heap[mb]? = some (.map es clock) ∧ MapKept.Stamped es clock ∧ IKeyed es l
theorem IMap.kept {w w1 : World} {mb : Nat} {l : List (S53 × Int)} (h : IMap w mb l) (hk : w1.heap[mb]? = w.heap[mb]?) : IMap w1 mb l := by
  obtain ⟨es, c, hb, h⟩ := h
  exact ⟨es, c, hk.trans hb, h⟩
theorem IMap.lt {w : World} {mb : Nat} {l : List (S53 × Int)} (h : IMap w mb l) : mb < w.heap.size := by
  obtain ⟨es, c, hb, h⟩ := h
  exact blk_lt hb
theorem imap_made (w : World) : IMap (w.alloc (.map #[] 0)) w.heap.size [] := ⟨#[], 0, (MapKept.heap_alloc w _).1, MapKept.stamped_empty 0, rfl⟩
theorem run_getObj_map' {w : World} {r : Nat} {es : Array MapEntry} {clock : Nat} (hb : w.heap[r]? = some (.map es clock)) : (getObj r).run Try.prog w = .ok (.map es clock) w := MapKept.run_getObj_map hb
theorem zeroINT3 (w : World) : (zeroValue 3).run Try.prog w = .ok (.int .i64 0) w := by kernel_rfl
theorem imap_look {w : World} {mb : Nat} {l : List (S53 × Int)} (h : IMap w mb l) (k : S53) : (Instr.lookup 56 (.map (some mb)) (encI k) false).run Try.prog w = .ok (.int .i64 (bal l k)) w := by
  obtain ⟨es, c, hb, hs, hk⟩ := h
  unfold Instr.lookup
  rcases fk_run w k hk with ⟨h1, h2⟩ | ⟨j, v, h1, h2, h3⟩
  · simp only [Sem.run_bind, run_underlying Try.underlying56, Result.andThen_ok, run_getObj_map' hb, Sem.run_pure, ck_Instr, h2, zeroINT3, bal_none h1]
    rfl
  · simp only [Sem.run_bind, run_underlying Try.underlying56, Result.andThen_ok, run_getObj_map' hb, Sem.run_pure, ck_Instr, h3, bal_at h1 h2]
    rfl
set_option maxRecDepth 100000 in
theorem stay_Instr (w : World) (k : S53) : (Instr.keyThatStays (encI k) (encI k)).run Try.prog w = .ok (encI k) w := by
  have : Instr.sameBits 10000 (encI k) (encI k) = true := by
    simp [Instr.sameBits, encI]
  simp [Instr.keyThatStays, this]
/-- .. and the entry with stamp b is the one of key k -/
def IMapB (w : World) (mb : Nat) (l : List (S53 × Int)) (k : S53) (b : Nat) : Prop :=
  ∃ es clock j v, w.heap[mb]? = some (.map es clock) ∧ MapKept.Stamped es clock ∧ IKeyed es l ∧ l[j]? = some (k, v) ∧ (∀ p ∈ l.take j, p.1 ≠ k) ∧ (es[j]?).map (·.born) = some b
theorem IMapB.imap {w : World} {mb : Nat} {l : List (S53 × Int)} {k : S53} {b : Nat} (h : IMapB w mb l k b) : IMap w mb l := by
  obtain ⟨es, c, j, v, hb, hs, hk, _⟩ := h
  exact ⟨es, c, hb, hs, hk⟩
theorem ikeyed_keys {es : Array MapEntry} {l : List (S53 × Int)} (h : IKeyed es l) : es.toList.map (·.key) = l.map (fun p => encI p.1) := by
  have := congrArg (List.map Prod.fst) h
  simpa [List.map_map, Function.comp_def] using this
theorem ikeyed_get {es : Array MapEntry} {l : List (S53 × Int)} (h : IKeyed es l) (j : Nat) : (es[j]?).map (fun e => (e.key, e.val)) = (l[j]?).map (fun p => (encI p.1, Value.int .i64 p.2)) := by
  have := congrArg (fun (x : List (Value × Value)) => x[j]?) h
  simpa using this
/-- m[k] op= .., the first half: the entry is there; with the number 0 if it is new -/
theorem imap_entry {w : World} {mb : Nat} {l : List (S53 × Int)} (h : IMap w mb l) (k : S53) :
    ∃ b l1 w1, (Instr.mapEntry 56 (.map (some mb)) (encI k)).run Try.prog w = .ok (.tuple #[.int .i64 (bal l k), .int .i64 ((b : Nat) : Int)]) w1 ∧ IMapB w1 mb l1 k b ∧ (∀ s, bal l1 s = bal l s) ∧ w.grownBy w1 (some mb) := by
  obtain ⟨es, c, hb, hs, hk⟩ := h
  rcases fk_run w k hk with ⟨h1, h2⟩ | ⟨j, v, h1, h2, h3⟩
  · refine ⟨c, l ++ [(k, 0)], { w with heap := w.heap.setIfInBounds mb (.map (es.push { key := encI k, val := .int .i64 0, born := c }) (c + 1)) }, ?_, ⟨_, _, l.length, 0, (MapKept.heap_set hb).1, MapKept.stamped_push hs ?_, ?_, by simp, ?_, ?_⟩, fun s => ?_, mset_grown w mb _ hb⟩
    · unfold Instr.mapEntry
      simp only [Sem.run_bind, run_underlying Try.underlying56, Result.andThen_ok, run_getObj_map' hb, Sem.run_pure, ck_Instr, h2, zeroINT3, bal_none h1, MapKept.run_setObj_map _ hb]
      rfl
    · intro x hx e
      have : x.key ∈ es.toList.map (·.key) := List.mem_map.2 ⟨x, hx, rfl⟩
      rw [ikeyed_keys hk] at this
      obtain ⟨p, hp, hpe⟩ := List.mem_map.1 this
      exact h1 p hp (encI_inj (hpe.trans e))
    · unfold IKeyed at hk ⊢
      simp [hk]
    · intro p hp
      rw [List.take_left' rfl] at hp
      exact h1 p hp
    · have hlen : es.size = l.length := by have := congrArg List.length hk; simpa using this
      rw [← hlen]; simp
    · rw [bal_append h1]
      split
      · rename_i e; rw [e, bal_none h1]
      · rfl
  · have hj := ikeyed_get hk j
    rw [h1] at hj
    simp only [Option.map_some] at hj
    obtain ⟨e, he, hev⟩ := Option.map_eq_some_iff.1 hj
    simp only [Prod.mk.injEq] at hev
    obtain ⟨hek, hevv⟩ := hev
    have hsame : ∀ e', es[j]? = some e' → ({ e' with key := encI k } : MapEntry) = e' := fun e' he' => by
      rw [he] at he'; cases he'; rw [← hek]
    have hmod : es.modify j (fun e => { e with key := encI k }) = es := by
      apply Array.ext_getElem?
      intro q
      rw [Array.getElem?_modify]
      by_cases hq : j = q
      · subst hq; rw [if_pos rfl, he]; simp only [Option.map_some]; rw [hsame e he]
      · rw [if_neg hq]
    refine ⟨e.born, l, { w with heap := w.heap.setIfInBounds mb (.map es c) }, ?_, ⟨_, _, j, v, (MapKept.heap_set hb).1, hs, hk, h1, h2, by rw [he]; rfl⟩, fun _ => rfl, mset_grown w mb _ hb⟩
    unfold Instr.mapEntry
    simp only [Sem.run_bind, run_underlying Try.underlying56, Result.andThen_ok, run_getObj_map' hb, Sem.run_pure, ck_Instr, h3, bal_at h1 h2, he, Option.map_some, Option.getD_some, hek, stay_Instr, hmod, MapKept.run_setObj_map _ hb]
    rfl
theorem nodup_idx {es : Array MapEntry} (hn : (es.toList.map (·.born)).Nodup) {j : Nat} {e : MapEntry} (he : es[j]? = some e) : es.findIdx? (fun x => (x.born : Int) == (e.born : Int)) = some j := by
  obtain ⟨hlt, hge⟩ := Array.getElem?_eq_some_iff.1 he
  rw [Array.findIdx?_eq_some_iff_getElem]
  refine ⟨hlt, by simp [hge], fun q hq => ?_⟩
  simp only [Bool.not_eq_true, beq_eq_false_iff_ne, ne_eq]
  intro hb
  have hb' : es[q].born = e.born := by omega
  have hp := List.nodup_iff_pairwise_ne.1 hn
  have := List.pairwise_iff_getElem.1 hp q j (by simp; omega) (by simpa using hlt) hq
  simp at this
  exact this (by rw [hb', hge])
/-- m[k] op= v, the second half -/
theorem imap_store {w : World} {mb b : Nat} {l : List (S53 × Int)} {k : S53} (h : IMapB w mb l k b) (v' : Int) :
    ∃ l2 w1, (Instr.entryStore 56 (.map (some mb)) (.int .i64 ((b : Nat) : Int)) (.int .i64 v')).run Try.prog w = .ok () w1 ∧ IMap w1 mb l2 ∧ (∀ s, bal l2 s = if s = k then v' else bal l s) ∧ w.grownBy w1 (some mb) := by
  obtain ⟨es, c, j, v, hb, hs, hk, h1, h2, h3⟩ := h
  obtain ⟨e, he, heb⟩ := Option.map_eq_some_iff.1 h3
  have hi := nodup_idx hs.2.1 he
  rw [heb] at hi
  refine ⟨l.set j (k, v'), _, ?_, ⟨_, _, (MapKept.heap_set hb).1, MapKept.stamped_modify hs j (fun e => { e with val := .int .i64 v' }) (fun _ _ => rfl) (fun _ _ _ => rfl), ?_⟩, fun s => bal_set h1 h2, mset_grown w mb _ hb⟩
  · have ha : (asInt (.int .i64 (b : Int))).run Try.prog w = .ok (b : Int) w := by simp [asInt, asIntOf]
    simp only [Instr.entryStore, Sem.run_bind, run_getObj_map' hb, Result.andThen, ha, hi, MapKept.run_setObj_map _ hb]
  · unfold IKeyed
    apply List.ext_getElem?
    intro q
    have hq := ikeyed_get hk q
    simp only [List.getElem?_map, Array.getElem?_toList, Array.getElem?_modify, List.getElem?_set]
    by_cases e1 : j = q
    · subst e1
      have hlt : j < l.length := (List.getElem?_eq_some_iff.1 h1).1
      rw [if_pos rfl, if_pos rfl, if_pos hlt]
      rw [he, h1] at hq
      rw [he]
      simp only [Option.map_some, Option.some.injEq, Prod.mk.injEq] at hq ⊢
      exact ⟨hq.1, trivial⟩
    · rw [if_neg e1, if_neg e1]
      exact hq
end Go.Proofs.Ytadaopfcgpfiiaa
namespace Go.Proofs.Ytadaopfcgpfiiaa
open Go.RowKit Go.Proofs.YtadaopfcgpfiiaaW.PrintWords Go.Proofs.YtadaopfcgpfiiaaW.PrintLast Go.Proofs.YtadaopfcgpfiiaaW.PrintMore PCg
set_option linter.unusedVariables false
set_option linter.unusedSimpArgs false
def chkW (op : Int) : Bool :=
  match isa_find.f 100 op with
  | none => false
  | some r => r.2.2.2.2.2.1.data.toList == (if wrOp op then [97] else [])
theorem chkW_all (op : Int) (h0 : 0 ≤ op) (h1 : op < 30) : chkW op = true := by
  have h : op = 0 ∨ op = 1 ∨ op = 2 ∨ op = 3 ∨ op = 4 ∨ op = 5 ∨ op = 6 ∨ op = 7 ∨ op = 8 ∨ op = 9 ∨ op = 10 ∨ op = 11 ∨ op = 12 ∨ op = 13 ∨ op = 14 ∨ op = 15 ∨ op = 16 ∨ op = 17 ∨ op = 18 ∨ op = 19 ∨ op = 20 ∨ op = 21 ∨ op = 22 ∨ op = 23 ∨ op = 24 ∨ op = 25 ∨ op = 26 ∨ op = 27 ∨ op = 28 ∨ op = 29 := by omega
  rcases h with rfl | rfl | rfl | rfl | rfl | rfl | rfl | rfl | rfl | rfl | rfl | rfl | rfl | rfl | rfl | rfl | rfl | rfl | rfl | rfl | rfl | rfl | rfl | rfl | rfl | rfl | rfl | rfl | rfl | rfl <;> decide +kernel
theorem toList_byte {s : ByteArray} {l : List UInt8} (h : s.data.toList = l) : s = ⟨l.toArray⟩ := by
  subst h
  apply ByteArray.ext
  simp
theorem find_wr (op : Int) (h0 : 0 ≤ op) (h1 : op < 30) : ∃ r1 r2 r3 r4 r5 r6 r7, isa_find.f 100 op = some (r1, r2, r3, r4, r5, r6, r7) ∧ ((r6 = ⟨#[]⟩ ∧ wrOp op = false) ∨ (r6 = ⟨#[97]⟩ ∧ wrOp op = true)) := by
  have h := chkW_all op h0 h1
  unfold chkW at h
  cases hf : isa_find.f 100 op with
  | none => rw [hf] at h; cases h
  | some r =>
    rw [hf] at h
    obtain ⟨r1, r2, r3, r4, r5, r6, r7⟩ := r
    refine ⟨r1, r2, r3, r4, r5, r6, r7, rfl, ?_⟩
    have h2 := beq_iff_eq.1 h
    dsimp only at h2
    cases hw : wrOp op with
    | true => rw [hw] at h2; exact .inr ⟨toList_byte h2, rfl⟩
    | false => rw [hw] at h2; exact .inl ⟨toList_byte h2, rfl⟩
theorem instrB_lt {x : S53} (h : instrB x = true) : 0 ≤ x.f0 ∧ x.f0 < 30 := by
  unfold instrB at h
  cases hf : fmtOf x.f0 with
  | none => rw [hf] at h; cases h
  | some p =>
    unfold fmtOf at hf
    repeat' split at hf
    all_goals first | (cases hf; done) | omega
set_option maxRecDepth 100000 in
set_option maxHeartbeats 2000000 in
theorem writes_any (x : S53) (w : World) (h : instrB x = true) :
    Calls Try.prog 21 #[.agg #[.int .u8 x.f0, .int .i64 x.f1, .int .i64 x.f2, .int .i64 x.f3, .int .i64 x.f4]] w
      fun e w' => e = .returned (.tuple #[.int .i64 (if wrOp x.f0 = true then x.f1 else 0), .bool (wrOp x.f0 && !(x.f1 == 0))]) ∧ Below w.heap.size w w' := by
  obtain ⟨h0, h1⟩ := instrB_lt h
  obtain ⟨r1, r2, r3, r4, r5, r6, r7, hf, hr⟩ := find_wr x.f0 h0 h1
  have HV := Aside0.mk (fun W => isaValid_all x W h0 (by omega))
  rw [h] at HV
  obtain ⟨op, a, b, c, m⟩ := x
  dsimp only at *
  have HF := Aside0.mk (fun W => isa_find.calls 100 op r1 r2 r3 r4 r5 r6 r7 W hf)
  clear hf h
  obtain ⟨bw, hbw⟩ : ∃ bw, wrOp op = bw := ⟨_, rfl⟩
  rw [hbw] at hr ⊢
  have hu := Try.underlying53
  have hu2 := Try.underlying108
  have HBA := Aside0.mk (below_alloc (Below.refl w.heap.size w) (.cells #[.int .u8 op, .int .i64 a, .int .i64 b, .int .i64 c, .int .i64 m] 53))
  have HO := Aside0.mk (blk_new w (.cells #[.int .u8 op, .int .i64 a, .int .i64 b, .int .i64 c, .int .i64 m] 53))
  go_enter Try.func21, Try.ntmps21
  go_wp2_with fail
  refine (HF.out _).mono ?_
  rintro e w1 ⟨rfl, hb1⟩
  have HO1 := Aside0.mk (blk_below HO.out hb1)
  have HB1 := Aside0.mk (below_step HBA.out hb1)
  clear hb1 HF HO HBA
  obtain ⟨o0, o1, o2, o3, o4⟩ := blk5 HO1.out
  have hl1 := blk_lt HO1.out
  go_wp2_with fail
  refine (HV.out _).mono ?_
  rintro e w2 ⟨rfl, hb2⟩
  have HO2 := Aside0.mk (blk_below (blk_alloc HO1.out (.cells #[.string r1, .string r2, .int .i64 r3, .int .i64 r4, .string r5, .string r6] 108)) hb2)
  have HR2 := Aside0.mk (blk_below (blk_new w1 (.cells #[.string r1, .string r2, .int .i64 r3, .int .i64 r4, .string r5, .string r6] 108)) hb2)
  have HB2 := Aside0.mk (below_step (below_alloc HB1.out _) hb2)
  clear hb2 HV o0 o1 o2 o3 o4
  obtain ⟨o0, o1, o2, o3, o4⟩ := blk5 HO2.out
  obtain ⟨z0, z1, z2, z3, z4, z5⟩ := blk6 HR2.out
  have hl2 := blk_lt HO2.out
  have hl3 := blk_lt HR2.out
  rcases hr with ⟨rfl, rfl⟩ | ⟨rfl, rfl⟩
  · go_wp2
    go_ret2
    exact ⟨rfl, HB2.out⟩
  · by_cases ha : a = 0
    · subst ha
      go_wp2
      go_ret2
      exact ⟨rfl, HB2.out⟩
    · have hab := beq_eq_false_iff_ne.2 ha
      go_wp2
      go_ret2
      exact ⟨by first | rfl | simp [ha], HB2.out⟩
/-- every number is zero -/
def Zeros (es : Array MapEntry) : Prop := ∀ e ∈ es.toList, (∃ x : S53, e.key = encI x) ∧ e.val = .int .i64 0
theorem zeros_of {es : Array MapEntry} {c : Nat} {l : List (S53 × Int)} (hs : MapKept.Stamped es c) (hk : IKeyed es l) (hz : ∀ s, bal l s = 0) : Zeros es := by
  intro e he
  obtain ⟨j, hj, rfl⟩ := List.mem_iff_getElem.1 he
  have hg := ikeyed_get hk j
  have hlen : es.size = l.length := by have := congrArg List.length hk; simpa using this
  have hj' : j < es.size := by simpa using hj
  rw [Array.getElem?_eq_getElem hj', List.getElem?_eq_getElem (by omega)] at hg
  simp only [Option.map_some, Option.some.injEq, Prod.mk.injEq] at hg
  have hn : (l.map (fun p => encI p.1)).Nodup := by rw [← ikeyed_keys hk]; exact hs.2.2
  have hb : bal l (l[j]'(by omega)).1 = (l[j]'(by omega)).2 := by
    refine bal_at (j := j) (by rw [List.getElem?_eq_getElem (by omega)]) (fun p hp e => ?_)
    obtain ⟨q, hq, rfl⟩ := List.mem_iff_getElem.1 hp
    simp only [List.length_take] at hq
    simp only [List.getElem_take] at e
    have := List.pairwise_iff_getElem.1 (List.nodup_iff_pairwise_ne.1 hn) q j (by simp; omega) (by simp; omega) (by omega)
    simp only [List.getElem_map] at this
    exact this (by rw [e])
  rw [hz] at hb
  simp only [Array.getElem_toList]
  exact ⟨⟨_, hg.1⟩, by rw [hg.2, ← hb]⟩
theorem countP_less {α : Type} {p q : α → Bool} : ∀ {l : List α}, (∀ x ∈ l, p x = true → q x = true) → (∃ x ∈ l, q x = true ∧ p x = false) → l.countP p < l.countP q := by
  intro l
  induction l with
  | nil => rintro _ ⟨x, hx, _⟩; cases hx
  | cons a l ih =>
    rintro h ⟨x, hx, h1, h2⟩
    have hle : l.countP p ≤ l.countP q := List.countP_mono_left (fun y hy => h y (List.mem_cons_of_mem _ hy))
    simp only [List.countP_cons]
    rcases List.mem_cons.1 hx with rfl | hx
    · rw [h1, h2]; simp; omega
    · have h3 := ih (fun y hy => h y (List.mem_cons_of_mem _ hy)) ⟨x, hx, h1, h2⟩
      have h4 := h a (List.mem_cons_self ..)
      cases ha : p a with
      | false => simp; omega
      | true => rw [h4 ha]; simp; omega
/-- an iterator over such a map; n entries have not been handed out -/
def IIter (w : World) (ib mb n : Nat) : Prop :=
  mb ≠ ib ∧ ∃ es clock since seen c0, w.heap[mb]? = some (.map es clock) ∧ MapKept.Stamped es clock ∧ Zeros es ∧ w.heap[ib]? = some (.mapIter (some mb) since seen c0) ∧
    (∀ x ∈ es.toList, x.born < since) ∧ since ≤ c0 ∧ since ≤ clock ∧ es.toList.countP (fun e => !seen.contains e.born) = n
theorem iiter_range {w : World} {mb : Nat} {l : List (S53 × Int)} (h : IMap w mb l) (hz : ∀ s, bal l s = 0) :
    ∃ w1 n, (Instr.range 56 (.map (some mb))).run Try.prog w = .ok (.pointer (some ⟨w.heap.size, 0, none⟩)) w1 ∧ IIter w1 w.heap.size mb n ∧ Below w.heap.size w w1 ∧ w1.heap.size = w.heap.size + 1 := by
  obtain ⟨es, c, hb, hs, hkd⟩ := h
  have hlt := blk_lt hb
  refine ⟨_, es.toList.countP (fun e => !(#[] : Array Nat).contains e.born), run_range_map w 56 53 3 mb es c Try.underlying56 hb, ⟨by omega, es, c, c, #[], c, ?_, hs, zeros_of hs hkd hz, heap_alloc_new w _, hs.1, Nat.le_refl _, Nat.le_refl _, rfl⟩, (Below.refl _ _).alloc (Nat.le_refl _) _, by simp⟩
  rw [heap_alloc_old w _ hlt]; exact hb
theorem iiter_next {w : World} {ib mb n : Nat} (h : IIter w ib mb n) (t : TypeId) :
    ((Instr.next (.pointer (some ⟨ib, 0, none⟩)) false t).run Try.prog w = .ok (.tuple #[.bool false]) w) ∨
    ∃ k v n1 w1, n1 < n ∧ (Instr.next (.pointer (some ⟨ib, 0, none⟩)) false t).run Try.prog w = .ok (.tuple #[.bool true, k, v]) w1 ∧
      (Instr.entry (.pointer (some ⟨ib, 0, none⟩))).run Try.prog w1 = .ok (.tuple #[k, .int .i64 0]) w1 ∧ IIter w1 ib mb n1 ∧ w.grownBy w1 (some ib) ∧ w1.heap.size = w.heap.size := by
  obtain ⟨hne, es, c, since, seen, c0, hm, hs, hz, hi, hold, hsc, hsc2, hn⟩ := h
  have hgi : (getObj ib).run Try.prog w = .ok (.mapIter (some mb) since seen c0) w := by simp [getObj, Sem.run, hi]
  simp only [Instr.next, Sem.run_bind, hgi, MapKept.run_getObj_map hm, Result.andThen, next_test_false seen es since c0 hold hsc, Bool.false_eq_true, if_false]
  have hL : ∀ e, e ∈ (Array.filter (fun e => !seen.contains e.born) es).toList ↔ e ∈ es.toList ∧ seen.contains e.born = false := by
    intro e
    simp
  have hmem : ∀ x ∈ (Array.filter (fun e => !seen.contains e.born) es).toList, x.born < since := fun x hx => hold x ((hL x).1 hx).1
  generalize Array.filter (fun e => !seen.contains e.born) es = L at hmem hL ⊢
  have e1 : L.filter (fun x => decide (x.born < since)) = L := Array.filter_eq_self.2 (fun x hx => by simpa using hmem x (by simpa using hx))
  have e2 : L.filter (fun x => decide (x.born ≥ since)) = #[] := by
    rw [Array.filter_eq_empty_iff]
    intro x hx
    have := hmem x (by simpa using hx)
    simp
    omega
  simp only [e1, e2, Array.append_empty]
  by_cases h0 : L.size = 0
  · left
    have : L = #[] := Array.eq_empty_of_size_eq_zero h0
    subst this
    simp [choose, Sem.run, Question.forced]
  · right
    have hnE : L.isEmpty = false := by simp [Array.isEmpty, h0]
    simp only [hnE, Bool.false_eq_true, if_false, Array.empty_append, Array.size_map]
    have hch : ∃ (j : Nat) (w1 : World), j < L.size ∧ w.grownBy w1 none ∧ w1.heap = w.heap ∧ (choose (Question.mapNext L.size)).run Try.prog w = .ok j w1 := by
      by_cases hf : L.size ≤ 1
      · exact ⟨0, w, by omega, World.grownBy.refl w none, rfl, by simp [choose, Sem.run, Question.forced, hf]⟩
      · exact ⟨_, w.drew, Nat.mod_lt _ (by omega), ⟨rfl, rfl, rfl, Nat.le_refl _, fun _ _ _ => rfl⟩, rfl, by
          simp only [choose, Sem.run, Question.forced, decide_eq_true_eq, hf, if_false, Question.cut]
          rfl⟩
    obtain ⟨j, w1, hj, hal, hheap, hrun⟩ := hch
    obtain ⟨he, hes⟩ := (hL L[j]).1 (by simp)
    obtain ⟨⟨k, hk⟩, hv⟩ := hz L[j] he
    have hi1 : w1.heap[ib]? = some (.mapIter (some mb) since seen c0) := by rw [hheap]; exact hi
    have hset : (setObj ib (.mapIter (some mb) since (seen.push L[j].born) c)).run Try.prog w1 = .ok () { w1 with heap := w1.heap.setIfInBounds ib (.mapIter (some mb) since (seen.push L[j].born) c) } := by simp [setObj, Sem.run, hi1]
    have hib : ({ w1 with heap := w1.heap.setIfInBounds ib (.mapIter (some mb) since (seen.push L[j].born) c) } : World).heap[ib]? = some (.mapIter (some mb) since (seen.push L[j].born) c) := (MapKept.heap_set hi1).1
    have hmb : ({ w1 with heap := w1.heap.setIfInBounds ib (.mapIter (some mb) since (seen.push L[j].born) c) } : World).heap[mb]? = some (.map es c) := ((MapKept.heap_set hi1).2 mb hne).trans (by rw [hheap]; exact hm)
    have hg : w.grownBy { w1 with heap := w1.heap.setIfInBounds ib (.mapIter (some mb) since (seen.push L[j].born) c) } (some ib) :=
      ⟨hal.os, hal.tape, hal.output, by simp [hheap], fun k _ hkn => ((MapKept.heap_set hi1).2 k (fun e => hkn (by rw [e]))).trans (by rw [hheap])⟩
    have hsz : ({ w1 with heap := w1.heap.setIfInBounds ib (.mapIter (some mb) since (seen.push L[j].born) c) } : World).heap.size = w.heap.size := by simp [hheap]
    refine ⟨L[j].key, L[j].val, es.toList.countP (fun e => !(seen.push L[j].born).contains e.born), _, ?_, ?_, ?_, ⟨hne, es, c, since, _, c, hmb, hs, hz, hib, hold, hsc2, hsc2, rfl⟩, hg, hsz⟩
    · rw [← hn]
      refine countP_less (fun x _ hx => ?_) ⟨L[j], he, by simpa using hes, by simp⟩
      simp only [Array.contains_push, Bool.not_or, Bool.and_eq_true] at hx
      rcases hx with ⟨h1, h2⟩
      first | exact h1 | exact h2
    · simp only [hrun, Array.getElem?_map, Array.getElem?_eq_getElem hj, Option.map_some, Sem.run_bind, hset, Result.andThen, Sem.run_pure]
    · have hf : es.find? (·.born == L[j].born) = some L[j] := by rw [← Array.find?_toList]; exact find_born L[j] es.toList hs.2.1 he
      have hgi2 := run_getObj_iter hib
      simp only [Instr.entry, Sem.run_bind, hgi2, MapKept.run_getObj_map hmb, Result.andThen, Array.back?_push, bne_self_eq_false, Bool.false_eq_true, if_false, hf, hv]
      rfl
end Go.Proofs.Ytadaopfcgpfiiaa
namespace Go.Proofs.Ytadaopfcgpfiiaa
open Go.RowKit Go.Proofs.YtadaopfcgpfiiaaW.PrintWords Go.Proofs.YtadaopfcgpfiiaaW.PrintLast Go.Proofs.YtadaopfcgpfiiaaW.PrintMore PCg
set_option linter.unusedVariables false
set_option linter.unusedSimpArgs false
/-- the map so far: counted up at L, down at K -/
structure CtrSt (W3 wr : World) (mb : Nat) (L K : List S53) : Prop where
  map : ∃ l, IMap wr mb l ∧ ∀ s, bal l s = (L.count s : Int) - (K.count s : Int)
  below : Below W3.heap.size W3 wr
  base : W3.heap.size ≤ mb
theorem CtrSt.lt {W3 wr : World} {mb : Nat} {L K : List S53} (h : CtrSt W3 wr mb L K) : mb < wr.heap.size := by
  obtain ⟨l, h, _⟩ := h.map
  exact h.lt
theorem CtrSt.step {W3 wr w1 : World} {mb : Nat} {L K : List S53} (h : CtrSt W3 wr mb L K) (hb : Below wr.heap.size wr w1) : CtrSt W3 w1 mb L K := by
  obtain ⟨l, hm, hl⟩ := h.map
  exact ⟨⟨l, hm.kept (hb.block _ hm.lt), hl⟩, below_then h.below h.below.size hb, h.base⟩
theorem CtrSt.inc {W3 wr : World} {mb : Nat} {L K : List S53} (h : CtrSt W3 wr mb L K) (s : S53) :
    ∃ b w1, (Instr.lookup 56 (.map (some mb)) (encI s) false).run Try.prog wr = .ok (.int .i64 ((L.count s : Int) - (K.count s : Int))) wr ∧
      (Instr.mapEntry 56 (.map (some mb)) (encI s)).run Try.prog wr = .ok (.tuple #[.int .i64 ((L.count s : Int) - (K.count s : Int)), .int .i64 b]) w1 ∧
      (Instr.lookup 56 (.map (some mb)) (encI s) false).run Try.prog w1 = .ok (.int .i64 ((L.count s : Int) - (K.count s : Int))) w1 ∧ wr.grownBy w1 (some mb) ∧
      (∃ w2, (Instr.entryStore 56 (.map (some mb)) (.int .i64 b) (.int .i64 ((L.count s : Int) - (K.count s : Int) + 1))).run Try.prog w1 = .ok () w2 ∧ CtrSt W3 w2 mb (L ++ [s]) K) ∧
      ∃ w2, (Instr.entryStore 56 (.map (some mb)) (.int .i64 b) (.int .i64 ((L.count s : Int) - (K.count s : Int) - 1))).run Try.prog w1 = .ok () w2 ∧ CtrSt W3 w2 mb L (K ++ [s]) := by
  obtain ⟨l, hm, hl⟩ := h.map
  obtain ⟨b, l1, w1, he, hB, hl1, hg⟩ := imap_entry hm s
  obtain ⟨l2, w2, hs2, hm2, hl2, hg2⟩ := imap_store hB ((L.count s : Int) - (K.count s : Int) + 1)
  obtain ⟨l3, w3, hs3, hm3, hl3, hg3⟩ := imap_store hB ((L.count s : Int) - (K.count s : Int) - 1)
  have hlk := imap_look hm s
  have hlk1 := imap_look hB.imap s
  rw [hl1] at hlk1
  rw [hl] at hlk hlk1 he
  have hb1 : Below W3.heap.size W3 w1 := h.below.grown hg h.below.size (fun k hk => by injection hk with hk; subst hk; exact h.base)
  refine ⟨b, w1, hlk, he, hlk1, hg, ⟨w2, hs2, ⟨l2, hm2, fun q => ?_⟩, hb1.grown hg2 hb1.size (fun k hk => by injection hk with hk; subst hk; exact h.base), h.base⟩, w3, hs3, ⟨l3, hm3, fun q => ?_⟩, hb1.grown hg3 hb1.size (fun k hk => by injection hk with hk; subst hk; exact h.base), h.base⟩
  · rw [hl2, hl1, hl, List.count_append]
    by_cases e : q = s
    · subst e; simp; omega
    · rw [if_neg e, List.count_singleton, if_neg (by simpa using Ne.symm e)]; omega
  · rw [hl3, hl1, hl, List.count_append]
    by_cases e : q = s
    · subst e; simp; omega
    · rw [if_neg e, List.count_singleton, if_neg (by simpa using Ne.symm e)]; omega
theorem cmap_made (W : World) : CtrSt W (W.alloc (.map #[] 0)) W.heap.size [] [] :=
  ⟨⟨[], imap_made W, fun s => by simp [bal]⟩, below_alloc (Below.refl _ _) _, Nat.le_refl _⟩
theorem objB_ins {code : List S53} {data : Int} {refs : List S105} (h : objB code data refs = true) (k : Nat) (hk : k < code.length) : instrB (rd_T53 code k) = true := by
  cases hv : vTo code refs (k + 1) with
  | none => rw [objB_no hk hv] at h; cases h
  | some r =>
    rw [vTo] at hv
    cases hp : vTo code refs k with
    | none => rw [hp] at hv; cases hv
    | some r0 =>
      rw [hp, Option.bind_some] at hv
      unfold vStep at hv
      split at hv
      · rename_i hc
        simp only [Bool.and_eq_true] at hc
        exact hc.1
      · cases hv
end Go.Proofs.Ytadaopfcgpfiiaa
