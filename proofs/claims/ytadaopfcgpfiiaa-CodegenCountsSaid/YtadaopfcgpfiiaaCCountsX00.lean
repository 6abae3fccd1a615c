/- Lemmas: what the theorem of the claim's last text needs, joined by a program out of the seat's texts T0, Q5. -/
import Derived.Test.YtadaopfcgpfiiaaBaseX17
import Derived.Maps.Own
import Derived.Maps.OwnOps
import Derived.Maps.Views
import Derived.Test.YtadaopfcgpfiiaaBaseX38
import Derived.Test.YtadaopfcgpfiiaaBaseX37
import Derived.Test.YtadaopfcgpfiiaaCErrorsX00
namespace Go.Proofs.Ytadaopfcgpfiiaa
open Go.RowKit Go.Proofs.YtadaopfcgpfiiaaW.PrintWords Go.Proofs.YtadaopfcgpfiiaaW.PrintLast Go.Proofs.YtadaopfcgpfiiaaW.PrintMore PCg
set_option linter.unusedVariables false
set_option linter.unusedSimpArgs false
/-- block mb of w is a map from bytes to numbers: at a byte it gives m -/
def BMap (w : World) (mb : Nat) (N : Nat) (m : Int → Int) : Prop :=
  ∃ D : DataW Unit, w.ownsMap Try.prog 5 (plainElem Try.prog 3) mb N D ∧ Maps.IsMap D ∧ ∀ s : Int, (Lit.int .u8 s).wf = true → D.atKey (.int .u8 s) (.lit (.int .i64 0)) = .lit (.int .i64 (m s))
theorem zeroINT2 (w : World) : (zeroValue 3).run Try.prog w = .ok (.int .i64 0) w := by kernel_rfl
theorem BMap.look {w : World} {mb N : Nat} {m : Int → Int} (h : BMap w mb N m) {s : Int} (hs : (Lit.int .u8 s).wf = true) : (Instr.lookup 46 (.map (some mb)) (.int .u8 s) false).run Try.prog w = .ok (.int .i64 (m s)) w := by
  obtain ⟨D, h, _, hl⟩ := h
  obtain ⟨c, hr, hat, _⟩ := h.lookup_int (Maps.int_keyed Try.underlying5) Try.underlying46 Try.underlying3 (zeroINT2 w) (Maps.keyOf_int_mk Try.underlying5 hs)
  rw [hl s hs] at hat
  have : m s = c := by simpa using hat
  rw [this]
  exact hr
theorem bmap_made (w : World) : BMap (w.alloc (.map #[] 0)) w.heap.size 0 (fun _ => 0) :=
  ⟨.map [], World.ownsMap_made w _ _ _, Maps.isMap_empty, fun s _ => rfl⟩
theorem BMap.put {w : World} {mb N : Nat} {m : Int → Int} (h : BMap w mb N m) (hN : N < maxLen) {s : Int} (hs : (Lit.int .u8 s).wf = true) (v : Int) (hv : (Lit.int .i64 v).wf = true) :
    ∃ w', (Instr.mapUpdate 46 (.map (some mb)) (.int .u8 s) (.int .i64 v)).run Try.prog w = .ok () w' ∧ BMap w' mb (N + 1) (fun s' => if s' = s then v else m s') ∧ w.grownBy w' (some mb) := by
  obtain ⟨D, h, hm, hl⟩ := h
  obtain ⟨w', hr, ho, hg⟩ := h.update (Maps.int_keyed Try.underlying5) Try.underlying46 hN (Maps.keyOf_int_mk Try.underlying5 hs) (plainElem_int Try.underlying3 hv)
  refine ⟨w', hr, ⟨_, ho, hm.put _ _, fun s' hs' => ?_⟩, hg⟩
  by_cases e : s' = s
  · subst e
    rw [Maps.atKey_put_same hm (by trivial)]
    simp only [if_true]
  · rw [Maps.atKey_put_other (fun he => e (by injection he))]
    simp only [if_neg e]
    exact hl s' hs'
theorem wf_i64 {n : Int} (h : -1000000 ≤ n ∧ n ≤ 1000000) : (Lit.int .i64 n).wf = true := by
  simp [Lit.wf, IntKind.min, IntKind.max, IntKind.signed, IntKind.bits]; omega
theorem wf_u8 {n : Int} (h : 0 ≤ n ∧ n < 256) : (Lit.int .u8 n).wf = true := by
  simp [Lit.wf, IntKind.min, IntKind.max, IntKind.signed, IntKind.bits]; omega
/-- the map so far: counted up at L, down at K -/
structure CntSt (W3 wr : World) (mb N : Nat) (L K : List Int) : Prop where
  map : BMap wr mb N (fun s => (L.count s : Int) - (K.count s : Int))
  below : Below W3.heap.size W3 wr
  base : W3.heap.size ≤ mb
  num : N = L.length + K.length
theorem CntSt.up {W3 wr : World} {mb N : Nat} {L K : List Int} (h : CntSt W3 wr mb N L K) (hl : L.length + K.length ≤ 100000) (q : Int) (hq : 0 ≤ q ∧ q < 256) :
    ∃ w', (Instr.mapUpdate 46 (.map (some mb)) (.int .u8 q) (.int .i64 ((L.count q : Int) - (K.count q : Int) + 1))).run Try.prog wr = .ok () w' ∧ CntSt W3 w' mb (N + 1) (L ++ [q]) K := by
  have h1 : L.count q ≤ L.length := List.count_le_length
  have h2 : K.count q ≤ K.length := List.count_le_length
  have hN := h.num
  obtain ⟨w', hr, hM, hg⟩ := h.map.put (by have : (100000 : Nat) < maxLen := by decide
                                           omega) (wf_u8 hq) ((L.count q : Int) - (K.count q : Int) + 1) (wf_i64 (by omega))
  refine ⟨w', hr, ⟨?_, h.below.grown hg h.below.size (fun k hk => by injection hk with hk; subst hk; exact h.base), h.base, by simp; omega⟩⟩
  refine (congrArg (BMap w' mb (N + 1)) (funext fun s => ?_)).mp hM
  by_cases e : s = q
  · subst e; simp; omega
  · simp [e, Ne.symm e, List.count_append, List.count_singleton]
theorem CntSt.down {W3 wr : World} {mb N : Nat} {L K : List Int} (h : CntSt W3 wr mb N L K) (hl : L.length + K.length ≤ 100000) (q : Int) (hq : 0 ≤ q ∧ q < 256) :
    ∃ w', (Instr.mapUpdate 46 (.map (some mb)) (.int .u8 q) (.int .i64 ((L.count q : Int) - (K.count q : Int) - 1))).run Try.prog wr = .ok () w' ∧ CntSt W3 w' mb (N + 1) L (K ++ [q]) := by
  have h1 : L.count q ≤ L.length := List.count_le_length
  have h2 : K.count q ≤ K.length := List.count_le_length
  have hN := h.num
  obtain ⟨w', hr, hM, hg⟩ := h.map.put (by have : (100000 : Nat) < maxLen := by decide
                                           omega) (wf_u8 hq) ((L.count q : Int) - (K.count q : Int) - 1) (wf_i64 (by omega))
  refine ⟨w', hr, ⟨?_, h.below.grown hg h.below.size (fun k hk => by injection hk with hk; subst hk; exact h.base), h.base, by simp; omega⟩⟩
  refine (congrArg (BMap w' mb (N + 1)) (funext fun s => ?_)).mp hM
  by_cases e : s = q
  · subst e; simp; omega
  · simp [e, Ne.symm e, List.count_append, List.count_singleton]
theorem CntSt.look0 {W3 wr : World} {mb N : Nat} {L : List Int} (h : CntSt W3 wr mb N L []) (q : Int) (hq : 0 ≤ q ∧ q < 256) :
    (Instr.lookup 46 (.map (some mb)) (.int .u8 q) false).run Try.prog wr = .ok (.int .i64 (L.count q : Int)) wr := by
  have := h.map.look (wf_u8 hq)
  rwa [show (L.count q : Int) - (([] : List Int).count q : Int) = (L.count q : Int) by simp] at this
theorem CntSt.up0 {W3 wr : World} {mb N : Nat} {L : List Int} (h : CntSt W3 wr mb N L []) (hl : L.length ≤ 100000) (q : Int) (hq : 0 ≤ q ∧ q < 256) :
    ∃ w', (Instr.mapUpdate 46 (.map (some mb)) (.int .u8 q) (.int .i64 ((L.count q : Int) + 1))).run Try.prog wr = .ok () w' ∧ CntSt W3 w' mb (N + 1) (L ++ [q]) [] := by
  have := h.up (by simpa using hl) q hq
  rwa [show (L.count q : Int) - (([] : List Int).count q : Int) + 1 = (L.count q : Int) + 1 by simp] at this
end Go.Proofs.Ytadaopfcgpfiiaa
namespace Go.Proofs.Ytadaopfcgpfiiaa
open Go.RowKit Go.Proofs.YtadaopfcgpfiiaaW.PrintWords Go.Proofs.YtadaopfcgpfiiaaW.PrintLast Go.Proofs.YtadaopfcgpfiiaaW.PrintMore PCg
set_option linter.unusedVariables false
set_option linter.unusedSimpArgs false
theorem short_go (l : List S44) (hl : l.length ≤ 1000) : ∀ n j fuel : Nat, j + n = l.length → n < fuel → ∃ b, ontimelaw21_short.l0 fuel l (j : Int) = some b := by
  intro n
  induction n with
  | zero =>
    intro j fuel hj hf
    obtain ⟨f, rfl⟩ : ∃ f, fuel = f + 1 := ⟨fuel - 1, by omega⟩
    unfold ontimelaw21_short.l0
    rw [if_neg (by omega)]
    exact ⟨_, rfl⟩
  | succ n ih =>
    intro j fuel hj hf
    obtain ⟨f, rfl⟩ : ∃ f, fuel = f + 1 := ⟨fuel - 1, by omega⟩
    unfold ontimelaw21_short.l0
    rw [if_pos (by omega), if_pos (by omega)]
    split
    · exact ⟨_, rfl⟩
    · rw [w64 (by omega), show (j : Int) + 1 = ((j + 1 : Nat) : Int) by omega]
      exact ih (j + 1) f (by omega) (by omega)
theorem short_f (l : List S44) (hl : l.length ≤ 90) : ∃ b, ontimelaw21_short.f 100 l = some b := short_go l (by omega) l.length 0 100 (by omega) (by omega)
theorem short_any (A : Option Addr) (c : Nat) (l : List S44) (hl : l.length ≤ 90) (hc : l.length ≤ c) : ∃ b, ∀ W, Kd.C k44 W A l.length l → Calls Try.prog 19 #[.slice A l.length c] W fun e w' => e = .returned (.bool b) ∧ Below W.heap.size W w' := by
  obtain ⟨b, h⟩ := short_f l hl
  exact ⟨b, fun W hC => (ontimelaw21_short.calls _ A c l b W hC hc h).mono fun e w' h => ⟨h.1, h.2.below⟩⟩
theorem expB_len (b : S49) : (expB b).length ≤ b.f0.length + 1 := by
  have := List.length_filterMap_le opOf b.f0
  unfold expB
  rw [List.length_append]
  split <;> simp <;> omega
theorem expTo_len (blks : List S49) : ∀ q : Nat, q ≤ blks.length → ((blks.take q).flatMap expB).length ≤ sumTo blks q + q := by
  intro q
  induction q with
  | zero => intro _; simp
  | succ q ih =>
    intro hq
    rw [List.take_add_one, List.getElem?_eq_getElem (by omega), sumTo, rd_Blk_get _ _ (by omega)]
    simp only [Option.toList_some, List.flatMap_append, List.flatMap_cons, List.flatMap_nil, List.append_nil, List.length_append]
    have h2 := expB_len blks[q]
    have h3 := ih (by omega)
    omega
theorem opOf_cases (i : S51) : (∃ q, opOf i = some q ∧ ((i.f0 = 11 ∧ q = 28) ∨ (i.f0 = 12 ∧ q = 29) ∨ (i.f0 = 9 ∧ q = 26) ∨ (i.f0 = 10 ∧ q = 27))) ∨ (opOf i = none ∧ i.f0 ≠ 11 ∧ i.f0 ≠ 12 ∧ i.f0 ≠ 9 ∧ i.f0 ≠ 10) := by
  unfold opOf
  by_cases h1 : i.f0 = 11
  · exact .inl ⟨28, by rw [if_pos h1], .inl ⟨h1, rfl⟩⟩
  by_cases h2 : i.f0 = 12
  · exact .inl ⟨29, by rw [if_neg h1, if_pos h2], .inr (.inl ⟨h2, rfl⟩)⟩
  by_cases h3 : i.f0 = 9
  · exact .inl ⟨26, by rw [if_neg h1, if_neg h2, if_pos h3], .inr (.inr (.inl ⟨h3, rfl⟩))⟩
  by_cases h4 : i.f0 = 10
  · exact .inl ⟨27, by rw [if_neg h1, if_neg h2, if_neg h3, if_pos h4], .inr (.inr (.inr ⟨h4, rfl⟩))⟩
  exact .inr ⟨by rw [if_neg h1, if_neg h2, if_neg h3, if_neg h4], h1, h2, h3, h4⟩
theorem opOf_in (i : S51) (q : Int) (h : opOf i = some q) : 0 ≤ q ∧ q < 256 := by
  unfold opOf at h
  repeat' split at h
  all_goals first | (cases h; done) | (injection h with h; omega)
set_option maxRecDepth 100000 in
set_option maxHeartbeats 8000000 in
theorem lawCounts_any (nm : ByteArray) (regs : Int) (A : Option Addr) (c : Nat) (arrs : List S44) (A3 : Option Addr) (c3 : Nat) (blks : List S49) (A2 : Option Addr) (c2 : Nat) (shared : List S44) (w : World)
    (hr : Kd.C k44 w A arrs.length arrs) (hcp : arrs.length ≤ c) (hr3 : Kd.C k49 w A3 blks.length blks) (hcp3 : blks.length ≤ c3) (hr2 : Kd.C k44 w A2 shared.length shared) (hcp2 : shared.length ≤ c2)
    (hns : ∀ a ∈ arrs, a.f0.size ≤ maxLen) (hnb : ∀ b ∈ blks, ∀ i ∈ b.f0, i.f5.size ≤ maxLen) :
    Calls Try.prog 6 #[.agg #[.string nm, .int .i64 regs, .slice A arrs.length c, .slice A3 blks.length c3], .slice A2 shared.length c2] w fun e w' => e = .returned (.bool true) ∧ Below w.heap.size w w' := by
  have HR := Aside0.mk hr; have HR2 := Aside0.mk hr2; have HR3 := Aside0.mk hr3; have HNS := Aside0.mk hns; have HNB := Aside0.mk hnb
  clear hr hr2 hr3 hns hnb
  have hu := Try.underlying25
  have hu2 := Try.underlying31
  have hu3 := Try.underlying51
  have hu5 := Try.underlying49
  have hu6 := Try.underlying53
  have HBA := Aside0.mk (below_alloc (Below.refl w.heap.size w) (.cells #[.string nm, .int .i64 regs, .slice A arrs.length c, .slice A3 blks.length c3] 25))
  have HO := Aside0.mk (blk_new w (.cells #[.string nm, .int .i64 regs, .slice A arrs.length c, .slice A3 blks.length c3] 25))
  go_enter Try.func6, Try.ntmps6
  go_wp2_with fail
  refine (awake_any _).mono ?_
  rintro e w1 ⟨rfl, hb1⟩
  have hO1 := blk_below HO.out hb1
  have HB1 := Aside0.mk (below_step HBA.out hb1)
  have hlF := blk_lt hO1
  have HO1 := Aside0.mk hO1
  clear hb1 hO1 HO HBA
  obtain ⟨o0, o1, o2, o3⟩ := blk4 HO1.out
  go_wp2_with fail
  rcases small_f nm regs arrs blks with hs | ⟨hs, hS⟩
  · refine (ontimelaw21_small.calls 100 nm regs A c arrs A3 c3 blks 0 w1 (Kd.C_below HR.out HB1.out) hcp (Kd.C_below HR3.out HB1.out) hcp3 hs).mono ?_
    rintro e w2 ⟨rfl, hb2⟩
    have HB2 := Aside0.mk (below_step HB1.out hb2); clear hb2
    go_wp2
    go_ret
    exact ⟨rfl, HB2.out⟩
  refine (ontimelaw21_small.calls 100 nm regs A c arrs A3 c3 blks 1 w1 (Kd.C_below HR.out HB1.out) hcp (Kd.C_below HR3.out HB1.out) hcp3 hs).mono ?_
  rintro e w2 ⟨rfl, hb2⟩
  have HS := Aside0.mk hS
  have HO2 := Aside0.mk (blk_below HO1.out hb2)
  have HB2 := Aside0.mk (below_step HB1.out hb2); clear hb2 hS hs
  clear o0 o1 o2 o3
  obtain ⟨o0, o1, o2, o3⟩ := blk4 HO2.out
  have hlF2 := blk_lt HO2.out
  have hbk : blks.length ≤ 20 := HS.out.1
  by_cases h4 : (4 : Int) < shared.length
  · have h4b := decide_eq_true h4
    go_wp2
    go_ret
    exact ⟨rfl, HB2.out⟩
  have h4b := decide_eq_false h4
  go_wp2_with fail
  obtain ⟨sh, hsh⟩ := short_any A2 c2 shared (by omega) hcp2
  refine (hsh w2 (Kd.C_below HR2.out HB2.out)).mono ?_
  rintro e w3 ⟨rfl, hb3⟩
  have HO3 := Aside0.mk (blk_below HO2.out hb3)
  have HB3 := Aside0.mk (below_step HB2.out hb3); clear hb3 hsh
  clear o0 o1 o2 o3
  obtain ⟨o0, o1, o2, o3⟩ := blk4 HO3.out
  have hlF3 := blk_lt HO3.out
  cases sh with
  | false =>
    go_wp2
    go_ret
    exact ⟨rfl, HB3.out⟩
  | true =>
  go_wp2_with fail
  refine (irValid_any nm regs A c arrs A3 c3 blks A2 c2 shared _ (Kd.C_below HR.out HB3.out) hcp (Kd.C_below HR3.out HB3.out) hcp3 (by have := HS.out.1; omega) (size_wide HS.out.2.2.2.2) (Kd.C_below HR2.out HB3.out) hcp2 (by omega)).mono ?_
  rintro e w4 ⟨rfl, hb4⟩
  have HO4 := Aside0.mk (blk_below HO3.out hb4)
  have HB4 := Aside0.mk (below_step HB3.out hb4); clear hb4
  clear o0 o1 o2 o3
  obtain ⟨o0, o1, o2, o3⟩ := blk4 HO4.out
  have hlF4 := blk_lt HO4.out
  cases hv : irOk regs arrs blks shared with
  | false =>
    go_wp2
    go_ret
    exact ⟨rfl, HB4.out⟩
  | true =>
  have hm := irOk_ment hv
  have HM := Aside0.mk hm
  clear hv
  go_wp2_with fail
  refine (task_good nm regs A c arrs A3 c3 blks w4 (Kd.C_below HR.out HB4.out) hcp (Kd.C_below HR3.out HB4.out) hcp3 HS.out.2.1 HS.out.1 HS.out.2.2.2.1 HNS.out HNB.out hm).mono ?_
  rintro e w5 ⟨st, places, slots, vc, vr, hst, hA, rfl, hC, hRf, hb5, hG, hl, hl2, hV⟩
  obtain ⟨Ac, cc, rfl⟩ := Kd.R_slice hC
  obtain ⟨Ar, cr, rfl⟩ := Kd.R_slice hRf
  obtain ⟨_, hcc, hCC⟩ := Kd.R_reads' hC
  have HCNT : Aside0 (∀ op, Five op → ((patchAll st).map (fun x => x.f0)).count op = (blks.flatMap expB).count op) := ⟨fun op ho => by rw [hst] at hG ⊢; exact task_cnt ho hm _ _ _ _ hG⟩
  have HOPS := Aside0.mk (patch_ops hG)
  have hpl := patch_len hG
  obtain ⟨code, hcode⟩ : ∃ code, patchAll st = code := ⟨_, rfl⟩
  rw [hcode] at HCNT HOPS hCC hcc hpl
  rw [hcode]
  generalize st.refs.length = n2 at *
  generalize layA arrs arrs.length + slots = d at *
  have HO5 := Aside0.mk (blk_below HO4.out hb5)
  have HB5 := Aside0.mk (below_step HB4.out hb5)
  have hcl : code.length ≤ 4096 := by omega
  have HCC := Aside0.mk hCC
  clear hb5 hC hRf hCC hG hV hA hst hl hl2 hpl hcode hm
  clear o0 o1 o2 o3
  have HON := Aside0.mk (blk_alloc (blk_new w5 (.cells #[.string nm, .slice Ac code.length cc, .int .i64 d, .slice Ar n2 cr] 31)) (.map #[] 0))
  have HOF := Aside0.mk (blk_alloc (blk_alloc HO5.out (.cells #[.string nm, .slice Ac code.length cc, .int .i64 d, .slice Ar n2 cr] 31)) (.map #[] 0))
  have HB6 := Aside0.mk (below_alloc (below_alloc HB5.out (.cells #[.string nm, .slice Ac code.length cc, .int .i64 d, .slice Ar n2 cr] 31)) (.map #[] 0))
  have HBm := Aside0.mk (below_alloc HB5.out (.cells #[.string nm, .slice Ac code.length cc, .int .i64 d, .slice Ar n2 cr] 31))
  have hmm : ∀ W : World, (Instr.makeMap 46 none).run Try.prog W = .ok (.map (some W.heap.size)) (W.alloc (.map #[] 0)) := fun W => by rfl
  go_wp2_with fail
  clear hmm
  have HC0 : Aside0 (CntSt (w5.alloc (.cells #[.string nm, .slice Ac code.length cc, .int .i64 d, .slice Ar n2 cr] 31)) ((w5.alloc (.cells #[.string nm, .slice Ac code.length cc, .int .i64 d, .slice Ar n2 cr] 31)).alloc (.map #[] 0)) (w5.heap.size + 1) 0 [] []) :=
    ⟨(congrArg (fun q => BMap _ q 0 _) (show (w5.alloc (.cells #[.string nm, .slice Ac code.length cc, .int .i64 d, .slice Ar n2 cr] 31)).heap.size = w5.heap.size + 1 by simp)).mp (bmap_made _), below_alloc (Below.refl _ _) _, by simp, rfl⟩
  have HBO := Aside0.mk (blk_new w5 (.cells #[.string nm, .slice Ac code.length cc, .int .i64 d, .slice Ar n2 cr] 31))
  have HBF := Aside0.mk (blk_alloc HO5.out (.cells #[.string nm, .slice Ac code.length cc, .int .i64 d, .slice Ar n2 cr] 31))
  have HCC3 := Aside0.mk (Kd.C_below HCC.out (below_alloc (Below.refl _ _) (.cells #[.string nm, .slice Ac code.length cc, .int .i64 d, .slice Ar n2 cr] 31)))
  generalize hW7 : (w5.alloc (.cells #[.string nm, .slice Ac code.length cc, .int .i64 d, .slice Ar n2 cr] 31)).alloc (.map #[] 0) = W7 at *
  generalize hW3 : w5.alloc (.cells #[.string nm, .slice Ac code.length cc, .int .i64 d, .slice Ar n2 cr] 31) = W3 at *
  have hlo : w5.heap.size < W3.heap.size := blk_lt HBO.out
  have hlf : w.heap.size < W3.heap.size := blk_lt HBF.out
  clear hW7 hW3
  generalize hmb : w5.heap.size + 1 = mb at *
  generalize w5.heap.size = ob at *
  clear hmb hlF4 HON HOF HB6
  go_loopw [8] (fun i wr => ∃ k : Int, i = .int .i64 k ∧ 0 ≤ k ∧ k ≤ blks.length ∧ Aside0 (∃ N, CntSt W3 wr mb N ((blks.take k.toNat).flatMap expB) [])) (fun i wr => blks.length - (intOf i).toNat)
  case atStart => exact ⟨0, rfl, Int.le_refl _, by omega, ⟨0, HC0.out⟩⟩
  case round =>
    obtain ⟨k, rfl, hk0, hk, HE⟩ := hrel
    obtain ⟨L, hL⟩ : ∃ L, (blks.take k.toNat).flatMap expB = L := ⟨_, rfl⟩
    obtain ⟨N, hN⟩ := HE.out
    rw [hL] at hN
    have HN := Aside0.mk hN; have HL := Aside0.mk hL
    clear hN hL HE
    have HOr := Aside0.mk (blk_below HBF.out HN.out.below)
    obtain ⟨o0, o1, o2, o3⟩ := blk4 HOr.out
    have hlr := blk_lt HOr.out
    by_cases hlt : k < blks.length
    · have HLB := Aside0.mk (show ∀ q : Nat, k.toNat = q → (blks.take (q + 1)).flatMap expB = L ++ expB (rd_T49 blks k) from fun q hq => by
        subst hq
        rw [List.take_add_one, List.getElem?_eq_getElem (by omega), ← rd_Blk_get _ _ (by omega), show ((k.toNat : Nat) : Int) = k by omega]
        simp only [Option.toList_some, List.flatMap_append, List.flatMap_cons, List.flatMap_nil, List.append_nil, HL.out])
      have HMB := Aside0.mk (show rd_T49 blks k ∈ blks from by
        rw [show k = ((k.toNat : Nat) : Int) by omega, rd_Blk_get _ _ (by omega)]
        exact List.getElem_mem _)
      have HLN := Aside0.mk (show L.length ≤ 400 by
        rw [← HL.out]
        have h1 := expTo_len blks k.toNat (by omega)
        have h2 := sumTo_le blks (show k.toNat ≤ blks.length by omega)
        have h3 := sumTo_eq blks
        have h4 := HS.out.2.2.2.1
        omega)
      obtain ⟨b, hb⟩ : ∃ b, rd_T49 blks k = b := ⟨_, rfl⟩
      have HEB := Aside0.mk hb
      rw [hb] at HLB HMB
      have hbl : b.f0.length ≤ 30 := HS.out.2.2.2.2 _ HMB.out
      have HBw := Aside0.mk (below_step HBm.out HN.out.below)
      obtain ⟨ad, Ai, ci, hA, x0, x1, x2, x3, x4, hci, hCi⟩ := at_T49 HR3.out k hk0 hlt
      cases hA
      rw [hb] at x0 x1 x2 x3 x4 hci hCi
      have HCI := Aside0.mk hCi
      replace x0 := (HBw.out.cell (World.block_lt_of_cell? w _ x0)).trans x0
      replace x1 := (HBw.out.cell (World.block_lt_of_cell? w _ x1)).trans x1
      have p110 := eq_true hk0
      have q110 := eq_true hlt
      clear x2 x3 x4 hCi hb
      by_cases h3 : b.f1 = 3
      case pos =>
        rw [h3] at x1
        have hlk := HN.out.look0 1 (by omega)
        obtain ⟨w8, hup, hN8⟩ := HN.out.up0 (by have := HLN.out; omega) 1 (by omega)
        have HE3 : Aside0 (L ++ expB b = (L ++ [1]) ++ b.f0.filterMap opOf) := ⟨by unfold expB; rw [if_pos h3, List.append_assoc]⟩
        have hc1 : L.count 1 ≤ 400 := Nat.le_trans List.count_le_length HLN.out
        have HL1 := Aside0.mk (show (L ++ [1]).length ≤ 500 by have := HLN.out; simp; omega)
        go_wp2_with fail
        have HN8 := Aside0.mk hN8
        clear o0 o1 o2 o3 x0 x1 hlk hup hN8 hc1 hlr h3
        generalize L ++ [1] = L0 at *
        generalize N + 1 = N0 at *
        go_loopw [9] (fun i wr9 => ∃ j : Int, i = .int .i64 j ∧ 0 ≤ j ∧ j ≤ b.f0.length ∧ Aside0 (∃ N, CntSt W3 wr9 mb N (L0 ++ (b.f0.take j.toNat).filterMap opOf) [])) (fun i wr9 => b.f0.length - (intOf i).toNat)
        case atStart => exact ⟨0, rfl, Int.le_refl _, by omega, ⟨_, by simpa using HN8.out⟩⟩
        case round =>
          obtain ⟨j, rfl, hj0, hj, HE9⟩ := hrel
          obtain ⟨M, hM⟩ : ∃ M, L0 ++ (b.f0.take j.toNat).filterMap opOf = M := ⟨_, rfl⟩
          obtain ⟨N9, hN9⟩ := HE9.out
          rw [hM] at hN9
          have HN9 := Aside0.mk hN9; have HMM := Aside0.mk hM
          clear hN9 hM HE9 HN8
          have HO9 := Aside0.mk (blk_below HBF.out HN9.out.below)
          obtain ⟨o0, o1, o2, o3⟩ := blk4 HO9.out
          have hl9 := blk_lt HO9.out
          have HB9 := Aside0.mk (below_step HBm.out HN9.out.below)
          obtain ⟨ad, Ai, ci, hA, x0, x1, x2, x3, x4, hci, hCi⟩ := at_T49 HR3.out k hk0 hlt
          cases hA
          rw [HEB.out] at x0 x1 x2 x3 x4 hci hCi
          replace x0 := (HB9.out.cell (World.block_lt_of_cell? w _ x0)).trans x0
          clear x1 x2 x3 x4
          by_cases hltj : j < b.f0.length
          · obtain ⟨ai, hA2, y0, y1, y2, y3, y4, y5⟩ := at_T51 hCi j hj0 hltj
            cases hA2
            replace y0 := (HB9.out.cell (World.block_lt_of_cell? w _ y0)).trans y0
            clear y1 y2 y3 y4 y5 hCi
            have p111 := eq_true hj0
            have q111 := eq_true hltj
            obtain ⟨i, hi⟩ : ∃ i, rd_T51 b.f0 j = i := ⟨_, rfl⟩
            rw [hi] at y0
            have HST := Aside0.mk (show L0 ++ (b.f0.take (j + 1).toNat).filterMap opOf = M ++ (opOf i).toList from by
              rw [show (j + 1).toNat = j.toNat + 1 from by omega, List.take_add_one, List.getElem?_eq_getElem (by omega), List.filterMap_append, ← List.append_assoc, HMM.out, ← hi]
              simp only [Option.toList_some, rd_T51, List.getD_eq_getElem?_getD]
              rw [List.getElem?_eq_getElem (by omega)]
              simp only [Option.getD_some, List.filterMap_cons, List.filterMap_nil]
              cases opOf b.f0[j.toNat] <;> rfl)
            clear hi
            have HLM := Aside0.mk (show M.length ≤ 1000 by
              rw [← HMM.out, List.length_append]
              have h1 := List.length_filterMap_le opOf (b.f0.take j.toNat)
              rw [List.length_take] at h1
              have h2 := HL1.out
              omega)
            rcases opOf_cases i with ⟨q, hq, hqq⟩ | ⟨hq, n1, n2, n3, n4⟩
            · have HQ := Aside0.mk hq; clear hq
              rcases hqq with ⟨ho, rfl⟩ | ⟨ho, rfl⟩ | ⟨ho, rfl⟩ | ⟨ho, rfl⟩
              all_goals
                rw [ho] at y0
                have hlk := HN9.out.look0 _ (opOf_in i _ HQ.out)
                obtain ⟨w10, hup, hN10⟩ := HN9.out.up0 (by have := HLM.out; omega) _ (opOf_in i _ HQ.out)
                have HN10 := Aside0.mk hN10; clear hN10
                have hcm := fun q => Nat.le_trans (List.count_le_length (a := q) (l := M)) HLM.out
                have hcm28 := hcm 28; have hcm29 := hcm 29; have hcm26 := hcm 26; have hcm27 := hcm 27
                clear hcm
                go_wp2_with fail
                go_roundw
                case rel => exact ⟨j + 1, rfl, by omega, by omega, ⟨_, by rw [HST.out, HQ.out]; exact HN10.out⟩⟩
                case measure => simp [intOf]; omega
            · have HQ := Aside0.mk hq; clear hq
              have e1 := beq_eq_false_iff_ne.2 n1
              have e2 := beq_eq_false_iff_ne.2 n2
              have e3 := beq_eq_false_iff_ne.2 n3
              have e4 := beq_eq_false_iff_ne.2 n4
              clear n1 n2 n3 n4
              go_wp2_with fail
              go_roundw
              case rel => exact ⟨j + 1, rfl, by omega, by omega, ⟨_, by rw [HST.out, HQ.out, Option.toList_none, List.append_nil]; exact HN9.out⟩⟩
              case measure => simp [intOf]; omega
          · have q111 := eq_false hltj
            have HFIN := Aside0.mk (show M = (blks.take (k + 1).toNat).flatMap expB from by
              rw [show (k + 1).toNat = k.toNat + 1 from by omega, HLB.out k.toNat rfl, HE3.out, ← HMM.out, List.take_of_length_le (by omega)])
            go_wp2_with fail
            go_roundw
            case rel => exact ⟨k + 1, rfl, by omega, by omega, ⟨_, by rw [← HFIN.out]; exact HN9.out⟩⟩
            case measure => simp [intOf]; omega
      case neg =>
        have h3b := beq_eq_false_iff_ne.2 h3
        have HE3 : Aside0 (L ++ expB b = L ++ b.f0.filterMap opOf) := ⟨by unfold expB; rw [if_neg h3]; rfl⟩
        have HL1 := Aside0.mk (show L.length ≤ 500 by have := HLN.out; omega)
        go_wp2_with fail
        have HN8 := HN
        clear o0 o1 o2 o3 x0 x1 hlr h3 h3b
        have hz8 : ∃ L0, L = L0 := ⟨_, rfl⟩
        obtain ⟨L0, hz8⟩ := hz8
        rw [show L ++ b.f0.filterMap opOf = L0 ++ b.f0.filterMap opOf from by rw [hz8]] at HE3
        rw [hz8] at HL1 HN8
        clear hz8
        go_loopw [9] (fun i wr9 => ∃ j : Int, i = .int .i64 j ∧ 0 ≤ j ∧ j ≤ b.f0.length ∧ Aside0 (∃ N, CntSt W3 wr9 mb N (L0 ++ (b.f0.take j.toNat).filterMap opOf) [])) (fun i wr9 => b.f0.length - (intOf i).toNat)
        case atStart => exact ⟨0, rfl, Int.le_refl _, by omega, ⟨_, by simpa using HN8.out⟩⟩
        case round =>
          obtain ⟨j, rfl, hj0, hj, HE9⟩ := hrel
          obtain ⟨M, hM⟩ : ∃ M, L0 ++ (b.f0.take j.toNat).filterMap opOf = M := ⟨_, rfl⟩
          obtain ⟨N9, hN9⟩ := HE9.out
          rw [hM] at hN9
          have HN9 := Aside0.mk hN9; have HMM := Aside0.mk hM
          clear hN9 hM HE9 HN8
          have HO9 := Aside0.mk (blk_below HBF.out HN9.out.below)
          obtain ⟨o0, o1, o2, o3⟩ := blk4 HO9.out
          have hl9 := blk_lt HO9.out
          have HB9 := Aside0.mk (below_step HBm.out HN9.out.below)
          obtain ⟨ad, Ai, ci, hA, x0, x1, x2, x3, x4, hci, hCi⟩ := at_T49 HR3.out k hk0 hlt
          cases hA
          rw [HEB.out] at x0 x1 x2 x3 x4 hci hCi
          replace x0 := (HB9.out.cell (World.block_lt_of_cell? w _ x0)).trans x0
          clear x1 x2 x3 x4
          by_cases hltj : j < b.f0.length
          · obtain ⟨ai, hA2, y0, y1, y2, y3, y4, y5⟩ := at_T51 hCi j hj0 hltj
            cases hA2
            replace y0 := (HB9.out.cell (World.block_lt_of_cell? w _ y0)).trans y0
            clear y1 y2 y3 y4 y5 hCi
            have p111 := eq_true hj0
            have q111 := eq_true hltj
            obtain ⟨i, hi⟩ : ∃ i, rd_T51 b.f0 j = i := ⟨_, rfl⟩
            rw [hi] at y0
            have HST := Aside0.mk (show L0 ++ (b.f0.take (j + 1).toNat).filterMap opOf = M ++ (opOf i).toList from by
              rw [show (j + 1).toNat = j.toNat + 1 from by omega, List.take_add_one, List.getElem?_eq_getElem (by omega), List.filterMap_append, ← List.append_assoc, HMM.out, ← hi]
              simp only [Option.toList_some, rd_T51, List.getD_eq_getElem?_getD]
              rw [List.getElem?_eq_getElem (by omega)]
              simp only [Option.getD_some, List.filterMap_cons, List.filterMap_nil]
              cases opOf b.f0[j.toNat] <;> rfl)
            clear hi
            have HLM := Aside0.mk (show M.length ≤ 1000 by
              rw [← HMM.out, List.length_append]
              have h1 := List.length_filterMap_le opOf (b.f0.take j.toNat)
              rw [List.length_take] at h1
              have h2 := HL1.out
              omega)
            rcases opOf_cases i with ⟨q, hq, hqq⟩ | ⟨hq, n1, n2, n3, n4⟩
            · have HQ := Aside0.mk hq; clear hq
              rcases hqq with ⟨ho, rfl⟩ | ⟨ho, rfl⟩ | ⟨ho, rfl⟩ | ⟨ho, rfl⟩
              all_goals
                rw [ho] at y0
                have hlk := HN9.out.look0 _ (opOf_in i _ HQ.out)
                obtain ⟨w10, hup, hN10⟩ := HN9.out.up0 (by have := HLM.out; omega) _ (opOf_in i _ HQ.out)
                have HN10 := Aside0.mk hN10; clear hN10
                have hcm := fun q => Nat.le_trans (List.count_le_length (a := q) (l := M)) HLM.out
                have hcm28 := hcm 28; have hcm29 := hcm 29; have hcm26 := hcm 26; have hcm27 := hcm 27
                clear hcm
                go_wp2_with fail
                go_roundw
                case rel => exact ⟨j + 1, rfl, by omega, by omega, ⟨_, by rw [HST.out, HQ.out]; exact HN10.out⟩⟩
                case measure => simp [intOf]; omega
            · have HQ := Aside0.mk hq; clear hq
              have e1 := beq_eq_false_iff_ne.2 n1
              have e2 := beq_eq_false_iff_ne.2 n2
              have e3 := beq_eq_false_iff_ne.2 n3
              have e4 := beq_eq_false_iff_ne.2 n4
              clear n1 n2 n3 n4
              go_wp2_with fail
              go_roundw
              case rel => exact ⟨j + 1, rfl, by omega, by omega, ⟨_, by rw [HST.out, HQ.out, Option.toList_none, List.append_nil]; exact HN9.out⟩⟩
              case measure => simp [intOf]; omega
          · have q111 := eq_false hltj
            have HFIN := Aside0.mk (show M = (blks.take (k + 1).toNat).flatMap expB from by
              rw [show (k + 1).toNat = k.toNat + 1 from by omega, HLB.out k.toNat rfl, HE3.out, ← HMM.out, List.take_of_length_le (by omega)])
            go_wp2_with fail
            go_roundw
            case rel => exact ⟨k + 1, rfl, by omega, by omega, ⟨_, by rw [← HFIN.out]; exact HN9.out⟩⟩
            case measure => simp [intOf]; omega
    · have q110 := eq_false hlt
      have HLL := Aside0.mk (show L = blks.flatMap expB from by rw [← HL.out, List.take_of_length_le (by omega)])
      have HLN := Aside0.mk (show L.length ≤ 400 by
        rw [← HL.out]
        have h1 := expTo_len blks k.toNat (by omega)
        have h2 := sumTo_le blks (show k.toNat ≤ blks.length by omega)
        have h3 := sumTo_eq blks
        have h4 := HS.out.2.2.2.1
        omega)
      go_wp2_with fail
      clear o0 o1 o2 o3 hlr
      go_loopw [10] (fun i wr9 => ∃ j : Int, i = .int .i64 j ∧ 0 ≤ j ∧ j ≤ code.length ∧ Aside0 (∃ N, CntSt W3 wr9 mb N L ((code.take j.toNat).map (fun x => x.f0)))) (fun i wr9 => code.length - (intOf i).toNat)
      case atStart => exact ⟨0, rfl, Int.le_refl _, by omega, ⟨_, by simpa using HN.out⟩⟩
      case round =>
        obtain ⟨j, rfl, hj0, hj, HE9⟩ := hrel
        obtain ⟨K, hK⟩ : ∃ K, (code.take j.toNat).map (fun x => x.f0) = K := ⟨_, rfl⟩
        obtain ⟨N9, hN9⟩ := HE9.out
        rw [hK] at hN9
        have HN9 := Aside0.mk hN9; have HKK := Aside0.mk hK
        clear hN9 hK HE9 HN
        have HO9 := Aside0.mk (blk_below HBO.out HN9.out.below)
        obtain ⟨z0, z1, z2, z3⟩ := blk4 HO9.out
        have hl9 := blk_lt HO9.out
        by_cases hltj : j < code.length
        · obtain ⟨ai, hA2, y0, y1, y2, y3, y4⟩ := at_T53 HCC3.out j hj0 hltj
          cases hA2
          replace y0 := (HN9.out.below.cell (World.block_lt_of_cell? W3 _ y0)).trans y0
          clear y1 y2 y3 y4
          have p111 := eq_true hj0
          have q111 := eq_true hltj
          obtain ⟨x, hx⟩ : ∃ x, (rd_T53 code j).f0 = x := ⟨_, rfl⟩
          have hxx : code[j.toNat]'(by omega) = rd_T53 code j := by
            have := rd_Instr_get code j.toNat (by omega)
            rw [show ((j.toNat : Nat) : Int) = j by omega] at this
            exact this.symm
          have HX : Aside0 (0 ≤ x ∧ x < 256) := ⟨by rw [← hx, ← hxx]; exact HOPS.out _ (List.getElem_mem _)⟩
          have HST := Aside0.mk (show (code.take (j + 1).toNat).map (fun x => x.f0) = K ++ [x] from by
            rw [show (j + 1).toNat = j.toNat + 1 from by omega, List.take_add_one, List.getElem?_eq_getElem (by omega), List.map_append, HKK.out, hxx]
            simp only [Option.toList_some, List.map_cons, List.map_nil, hx])
          rw [hx] at y0
          clear hx hxx
          have HKN := Aside0.mk (show K.length ≤ 5000 by rw [← HKK.out, List.length_map, List.length_take]; omega)
          have hlk := HN9.out.map.look (wf_u8 HX.out)
          obtain ⟨w10, hup, hN10⟩ := HN9.out.down (by have := HLN.out; have := HKN.out; omega) x HX.out
          have HN10 := Aside0.mk hN10; clear hN10
          have hc1 := Nat.le_trans (List.count_le_length (a := x) (l := L)) HLN.out
          have hc2 := Nat.le_trans (List.count_le_length (a := x) (l := K)) HKN.out
          obtain ⟨vx, hvx⟩ : ∃ vx : Int, (L.count x : Int) - (K.count x : Int) = vx := ⟨_, rfl⟩
          have hvb : -5000 ≤ vx ∧ vx ≤ 400 := by omega
          simp only [hvx] at hlk hup
          clear hvx hc1 hc2
          obtain ⟨hvb0, hvb1⟩ := hvb
          go_wp2_with fail
          go_roundw
          case rel => exact ⟨j + 1, rfl, by omega, by omega, ⟨_, by rw [HST.out]; exact HN10.out⟩⟩
          case measure => simp [intOf]; omega
        · have q111 := eq_false hltj
          have hzero : ∀ op, Five op → (Lit.int .u8 op).wf = true → (Instr.lookup 46 (.map (some mb)) (.int .u8 op) false).run Try.prog wr = .ok (.int .i64 0) wr := fun op ho hw => by
            have h1 := HN9.out.map.look hw
            have h2 : (L.count op : Int) - (K.count op : Int) = 0 := by
              have h3 := HCNT.out op ho
              rw [← HLL.out] at h3
              rw [← HKK.out, List.take_of_length_le (by omega)]
              omega
            rwa [h2] at h1
          have l1 := hzero 1 (.inl rfl) rfl
          have l28 := hzero 28 (.inr (.inr (.inr (.inl rfl)))) rfl
          have l29 := hzero 29 (.inr (.inr (.inr (.inr rfl)))) rfl
          have l26 := hzero 26 (.inr (.inl rfl)) rfl
          have l27 := hzero 27 (.inr (.inr (.inl rfl))) rfl
          have HFB := Aside0.mk (below_step HBm.out HN9.out.below)
          clear hzero
          go_wp2
          go_ret
          exact ⟨rfl, HFB.out⟩
end Go.Proofs.Ytadaopfcgpfiiaa
