/- Lemmas: what the theorem of the claim's last text needs, joined by a program out of the seat's texts Q6. -/
import Derived.Test.YtadaopfcgpfiiaaCCountersX04
namespace Go.Proofs.Ytadaopfcgpfiiaa
open Go.RowKit Go.Proofs.YtadaopfcgpfiiaaW.PrintWords Go.Proofs.YtadaopfcgpfiiaaW.PrintLast Go.Proofs.YtadaopfcgpfiiaaW.PrintMore PCg
set_option linter.unusedVariables false
set_option linter.unusedSimpArgs false
theorem ctrTo_len (blks : List S49) : ∀ q : Nat, q ≤ blks.length → ((blks.take q).flatMap (fun b => b.f0.filterMap ctrOf)).length ≤ sumTo blks q := by
  intro q
  induction q with
  | zero => intro _; simp
  | succ q ih =>
    intro hq
    rw [List.take_add_one, List.getElem?_eq_getElem (by omega), sumTo, rd_Blk_get _ _ (by omega)]
    simp only [Option.toList_some, List.flatMap_append, List.flatMap_cons, List.flatMap_nil, List.append_nil, List.length_append]
    have h2 := List.length_filterMap_le ctrOf blks[q].f0
    have h3 := ih (by omega)
    omega
set_option maxRecDepth 100000 in
set_option maxHeartbeats 8000000 in
theorem lawCounters_any (nm : ByteArray) (regs : Int) (A : Option Addr) (c : Nat) (arrs : List S44) (A3 : Option Addr) (c3 : Nat) (blks : List S49) (A2 : Option Addr) (c2 : Nat) (shared : List S44) (w : World)
    (hr : Kd.C k44 w A arrs.length arrs) (hcp : arrs.length ≤ c) (hr3 : Kd.C k49 w A3 blks.length blks) (hcp3 : blks.length ≤ c3) (hr2 : Kd.C k44 w A2 shared.length shared) (hcp2 : shared.length ≤ c2)
    (hns : ∀ a ∈ arrs, a.f0.size ≤ maxLen) (hnb : ∀ b ∈ blks, ∀ i ∈ b.f0, i.f5.size ≤ maxLen) :
    Calls Try.prog 8 #[.agg #[.string nm, .int .i64 regs, .slice A arrs.length c, .slice A3 blks.length c3], .slice A2 shared.length c2] w fun e w' => e = .returned (.bool true) ∧ Below w.heap.size w w' := by
  have HR := Aside0.mk hr; have HR2 := Aside0.mk hr2; have HR3 := Aside0.mk hr3; have HNS := Aside0.mk hns; have HNB := Aside0.mk hnb
  clear hr hr2 hr3 hns hnb
  have hu := Try.underlying25
  have hu2 := Try.underlying31
  have hu3 := Try.underlying51
  have hu5 := Try.underlying49
  have hu6 := Try.underlying53
  have HBA := Aside0.mk (below_alloc (Below.refl w.heap.size w) (.cells #[.string nm, .int .i64 regs, .slice A arrs.length c, .slice A3 blks.length c3] 25))
  have HO := Aside0.mk (blk_new w (.cells #[.string nm, .int .i64 regs, .slice A arrs.length c, .slice A3 blks.length c3] 25))
  go_enter Try.func8, Try.ntmps8
  go_wp2_with fail
  refine (awake_any _).mono ?_
  rintro e w1 ⟨rfl, hb1⟩
  have hO1 := blk_below HO.out hb1
  have HB1 := Aside0.mk (below_step HBA.out hb1)
  have hlF := blk_lt hO1
  have HO1 := Aside0.mk hO1
  clear hb1 hO1 HO HBA
  obtain ⟨o0, o1, o2, o3⟩ := blk4 HO1.out
  go_wp2_with fail
  rcases small_f nm regs arrs blks with hs | ⟨hs, hS⟩
  · refine (ontimelaw21_small.calls 100 nm regs A c arrs A3 c3 blks 0 w1 (Kd.C_below HR.out HB1.out) hcp (Kd.C_below HR3.out HB1.out) hcp3 hs).mono ?_
    rintro e w2 ⟨rfl, hb2⟩
    have HB2 := Aside0.mk (below_step HB1.out hb2); clear hb2
    go_wp2
    go_ret
    exact ⟨rfl, HB2.out⟩
  refine (ontimelaw21_small.calls 100 nm regs A c arrs A3 c3 blks 1 w1 (Kd.C_below HR.out HB1.out) hcp (Kd.C_below HR3.out HB1.out) hcp3 hs).mono ?_
  rintro e w2 ⟨rfl, hb2⟩
  have HS := Aside0.mk hS
  have HO2 := Aside0.mk (blk_below HO1.out hb2)
  have HB2 := Aside0.mk (below_step HB1.out hb2); clear hb2 hS hs
  clear o0 o1 o2 o3
  obtain ⟨o0, o1, o2, o3⟩ := blk4 HO2.out
  have hlF2 := blk_lt HO2.out
  have hbk : blks.length ≤ 20 := HS.out.1
  by_cases h4 : (4 : Int) < shared.length
  · have h4b := decide_eq_true h4
    go_wp2
    go_ret
    exact ⟨rfl, HB2.out⟩
  have h4b := decide_eq_false h4
  go_wp2_with fail
  obtain ⟨sh, hsh⟩ := short_any A2 c2 shared (by omega) hcp2
  refine (hsh w2 (Kd.C_below HR2.out HB2.out)).mono ?_
  rintro e w3 ⟨rfl, hb3⟩
  have HO3 := Aside0.mk (blk_below HO2.out hb3)
  have HB3 := Aside0.mk (below_step HB2.out hb3); clear hb3 hsh
  clear o0 o1 o2 o3
  obtain ⟨o0, o1, o2, o3⟩ := blk4 HO3.out
  have hlF3 := blk_lt HO3.out
  cases sh with
  | false =>
    go_wp2
    go_ret
    exact ⟨rfl, HB3.out⟩
  | true =>
  go_wp2_with fail
  refine (irValid_any nm regs A c arrs A3 c3 blks A2 c2 shared _ (Kd.C_below HR.out HB3.out) hcp (Kd.C_below HR3.out HB3.out) hcp3 (by have := HS.out.1; omega) (size_wide HS.out.2.2.2.2) (Kd.C_below HR2.out HB3.out) hcp2 (by omega)).mono ?_
  rintro e w4 ⟨rfl, hb4⟩
  have HO4 := Aside0.mk (blk_below HO3.out hb4)
  have HB4 := Aside0.mk (below_step HB3.out hb4); clear hb4
  clear o0 o1 o2 o3
  obtain ⟨o0, o1, o2, o3⟩ := blk4 HO4.out
  have hlF4 := blk_lt HO4.out
  cases hv : irOk regs arrs blks shared with
  | false =>
    go_wp2
    go_ret
    exact ⟨rfl, HB4.out⟩
  | true =>
  have hm := irOk_ment hv
  have HOKS := Aside0.mk hv
  have HM := Aside0.mk hm
  clear hv
  go_wp2_with fail
  refine (task_good nm regs A c arrs A3 c3 blks w4 (Kd.C_below HR.out HB4.out) hcp (Kd.C_below HR3.out HB4.out) hcp3 HS.out.2.1 HS.out.1 HS.out.2.2.2.1 HNS.out HNB.out hm).mono ?_
  rintro e w5 ⟨st, places, slots, vc, vr, hst, hA, rfl, hC, hRf, hb5, hG, hl, hl2, hV⟩
  obtain ⟨Ac, cc, rfl⟩ := Kd.R_slice hC
  obtain ⟨Ar, cr, rfl⟩ := Kd.R_slice hRf
  obtain ⟨_, hcc, hCC⟩ := Kd.R_reads' hC
  have HCTR : Aside0 ((patchAll st).filter ctr = blks.flatMap (fun b => b.f0.filterMap ctrOf)) := ⟨by rw [hst] at hG ⊢; exact task_ctr hm hA _ _ hG⟩
  have HINS := Aside0.mk (objB_ins hV)
  have HOPS := Aside0.mk (patch_ops hG)
  have hpl := patch_len hG
  obtain ⟨code, hcode⟩ : ∃ code, patchAll st = code := ⟨_, rfl⟩
  rw [hcode] at HCTR HINS HOPS hCC hcc hpl
  rw [hcode]
  generalize st.refs.length = n2 at *
  generalize layA arrs arrs.length + slots = d at *
  have HO5 := Aside0.mk (blk_below HO4.out hb5)
  have HB5 := Aside0.mk (below_step HB4.out hb5)
  have hcl : code.length ≤ 4096 := by omega
  have HCC := Aside0.mk hCC
  clear hb5 hC hRf hCC hG hV hA hst hl hl2 hpl hcode hm
  clear o0 o1 o2 o3
  have HON := Aside0.mk (blk_alloc (blk_new w5 (.cells #[.string nm, .slice Ac code.length cc, .int .i64 d, .slice Ar n2 cr] 31)) (.map #[] 0))
  have HOF := Aside0.mk (blk_alloc (blk_alloc HO5.out (.cells #[.string nm, .slice Ac code.length cc, .int .i64 d, .slice Ar n2 cr] 31)) (.map #[] 0))
  have HB6 := Aside0.mk (below_alloc (below_alloc HB5.out (.cells #[.string nm, .slice Ac code.length cc, .int .i64 d, .slice Ar n2 cr] 31)) (.map #[] 0))
  have HBm := Aside0.mk (below_alloc HB5.out (.cells #[.string nm, .slice Ac code.length cc, .int .i64 d, .slice Ar n2 cr] 31))
  have hmm : ∀ W : World, (Instr.makeMap 56 none).run Try.prog W = .ok (.map (some W.heap.size)) (W.alloc (.map #[] 0)) := fun W => by rfl
  go_wp2_with fail
  clear hmm
  have HC0 : Aside0 (CtrSt (w5.alloc (.cells #[.string nm, .slice Ac code.length cc, .int .i64 d, .slice Ar n2 cr] 31)) ((w5.alloc (.cells #[.string nm, .slice Ac code.length cc, .int .i64 d, .slice Ar n2 cr] 31)).alloc (.map #[] 0)) (w5.heap.size + 1) [] []) :=
    ⟨(congrArg (fun q => CtrSt _ _ q _ _) (show (w5.alloc (.cells #[.string nm, .slice Ac code.length cc, .int .i64 d, .slice Ar n2 cr] 31)).heap.size = w5.heap.size + 1 by simp)).mp (cmap_made _)⟩
  have HBO := Aside0.mk (blk_new w5 (.cells #[.string nm, .slice Ac code.length cc, .int .i64 d, .slice Ar n2 cr] 31))
  have HBF := Aside0.mk (blk_alloc HO5.out (.cells #[.string nm, .slice Ac code.length cc, .int .i64 d, .slice Ar n2 cr] 31))
  have HCC3 := Aside0.mk (Kd.C_below HCC.out (below_alloc (Below.refl _ _) (.cells #[.string nm, .slice Ac code.length cc, .int .i64 d, .slice Ar n2 cr] 31)))
  generalize hW7 : (w5.alloc (.cells #[.string nm, .slice Ac code.length cc, .int .i64 d, .slice Ar n2 cr] 31)).alloc (.map #[] 0) = W7 at *
  generalize hW3 : w5.alloc (.cells #[.string nm, .slice Ac code.length cc, .int .i64 d, .slice Ar n2 cr] 31) = W3 at *
  have hlo : w5.heap.size < W3.heap.size := blk_lt HBO.out
  have hlf : w.heap.size < W3.heap.size := blk_lt HBF.out
  clear hW7 hW3
  generalize hmb : w5.heap.size + 1 = mb at *
  generalize w5.heap.size = ob at *
  clear hmb hlF4 HON HOF HB6
  go_loopw [8] (fun i wr => ∃ k : Int, i = .int .i64 k ∧ 0 ≤ k ∧ k ≤ blks.length ∧ Aside0 (CtrSt W3 wr mb ((blks.take k.toNat).flatMap (fun b => b.f0.filterMap ctrOf)) [])) (fun i wr => blks.length - (intOf i).toNat)
  case atStart => exact ⟨0, rfl, Int.le_refl _, by omega, HC0⟩
  case round =>
    obtain ⟨k, rfl, hk0, hk, HN⟩ := hrel
    obtain ⟨L, hL⟩ : ∃ L, (blks.take k.toNat).flatMap (fun b => b.f0.filterMap ctrOf) = L := ⟨_, rfl⟩
    rw [hL] at HN
    have HL := Aside0.mk hL
    clear hL
    have HOr := Aside0.mk (blk_below HBF.out HN.out.below)
    obtain ⟨o0, o1, o2, o3⟩ := blk4 HOr.out
    have hlr := blk_lt HOr.out
    by_cases hlt : k < blks.length
    · obtain ⟨b, hb⟩ : ∃ b, rd_T49 blks k = b := ⟨_, rfl⟩
      have HEB := Aside0.mk hb
      have HLB := Aside0.mk (show ∀ q : Nat, k.toNat = q → (blks.take (q + 1)).flatMap (fun b => b.f0.filterMap ctrOf) = L ++ b.f0.filterMap ctrOf from fun q hq => by
        subst hq
        rw [List.take_add_one, List.getElem?_eq_getElem (by omega), ← rd_Blk_get _ _ (by omega), show ((k.toNat : Nat) : Int) = k by omega, hb]
        simp only [Option.toList_some, List.flatMap_append, List.flatMap_cons, List.flatMap_nil, List.append_nil, HL.out])
      have HMB := Aside0.mk (show b ∈ blks from by
        rw [← hb, show k = ((k.toNat : Nat) : Int) by omega, rd_Blk_get _ _ (by omega)]
        exact List.getElem_mem _)
      have hbl : b.f0.length ≤ 30 := HS.out.2.2.2.2 _ HMB.out
      have HLN := Aside0.mk (show L.length ≤ 400 by
        rw [← HL.out]
        have h1 := ctrTo_len blks k.toNat (by omega)
        have h2 := sumTo_le blks (show k.toNat ≤ blks.length by omega)
        have h3 := sumTo_eq blks
        have h4 := HS.out.2.2.2.1
        omega)
      have p110 := eq_true hk0
      have q110 := eq_true hlt
      go_wp2_with fail
      clear o0 o1 o2 o3 hlr hb
      go_loopw [9] (fun i wr9 => ∃ j : Int, i = .int .i64 j ∧ 0 ≤ j ∧ j ≤ b.f0.length ∧ Aside0 (CtrSt W3 wr9 mb (L ++ (b.f0.take j.toNat).filterMap ctrOf) [])) (fun i wr9 => b.f0.length - (intOf i).toNat)
      case atStart => exact ⟨0, rfl, Int.le_refl _, by omega, ⟨by simpa using HN.out⟩⟩
      case round =>
        obtain ⟨j, rfl, hj0, hj, HN9⟩ := hrel
        obtain ⟨M, hM⟩ : ∃ M, L ++ (b.f0.take j.toNat).filterMap ctrOf = M := ⟨_, rfl⟩
        rw [hM] at HN9
        have HMM := Aside0.mk hM
        clear hM
        have HO9 := Aside0.mk (blk_below HBF.out HN9.out.below)
        obtain ⟨o0, o1, o2, o3⟩ := blk4 HO9.out
        have hl9 := blk_lt HO9.out
        have HB9 := Aside0.mk (below_step HBm.out HN9.out.below)
        obtain ⟨ad, Ai, ci, hA, x0, x1, x2, x3, x4, hci, hCi⟩ := at_T49 HR3.out k hk0 hlt
        cases hA
        rw [HEB.out] at x0 x1 x2 x3 x4 hci hCi
        replace x0 := (HB9.out.cell (World.block_lt_of_cell? w _ x0)).trans x0
        clear x1 x2 x3 x4
        by_cases hltj : j < b.f0.length
        · obtain ⟨ai, hA2, y0, y1, y2, y3, y4, y5⟩ := at_T51 hCi j hj0 hltj
          cases hA2
          replace y0 := (HB9.out.cell (World.block_lt_of_cell? w _ y0)).trans y0
          replace y1 := (HB9.out.cell (World.block_lt_of_cell? w _ y1)).trans y1
          replace y2 := (HB9.out.cell (World.block_lt_of_cell? w _ y2)).trans y2
          replace y3 := (HB9.out.cell (World.block_lt_of_cell? w _ y3)).trans y3
          replace y4 := (HB9.out.cell (World.block_lt_of_cell? w _ y4)).trans y4
          replace y5 := (HB9.out.cell (World.block_lt_of_cell? w _ y5)).trans y5
          clear hCi
          have p111 := eq_true hj0
          have q111 := eq_true hltj
          obtain ⟨i, hi⟩ : ∃ i, rd_T51 b.f0 j = i := ⟨_, rfl⟩
          rw [hi] at y0 y1 y2 y3 y4 y5
          have HST := Aside0.mk (show L ++ (b.f0.take (j + 1).toNat).filterMap ctrOf = M ++ (ctrOf i).toList from by
            rw [show (j + 1).toNat = j.toNat + 1 from by omega, List.take_add_one, List.getElem?_eq_getElem (by omega), List.filterMap_append, ← List.append_assoc, HMM.out, ← hi]
            simp only [Option.toList_some, rd_T51, List.getD_eq_getElem?_getD]
            rw [List.getElem?_eq_getElem (by omega)]
            simp only [Option.getD_some, List.filterMap_cons, List.filterMap_nil]
            cases ctrOf b.f0[j.toNat] <;> rfl)
          have HII := Aside0.mk (show insOk regs arrs shared i = true from by
            have h1 := (irOk_facts HOKS.out).2.2.2.2.2.2 k.toNat (by omega)
            rw [show ((k.toNat : Nat) : Int) = k by omega, HEB.out] at h1
            simp only [blkOk, Bool.and_eq_true, List.all_eq_true] at h1
            refine h1.2 i ?_
            rw [← hi]
            simp only [rd_T51, List.getD_eq_getElem?_getD]
            rw [List.getElem?_eq_getElem (by omega)]
            exact List.getElem_mem _)
          clear hi
          have HLM := Aside0.mk (show M.length ≤ 1000 by
            rw [← HMM.out, List.length_append]
            have h1 := List.length_filterMap_le ctrOf (b.f0.take j.toNat)
            rw [List.length_take] at h1
            have h2 := HLN.out
            omega)
          by_cases h13 : i.f0 = 13
          · have HQ : Aside0 (ctrOf i = some ⟨14, 10 + i.f4, 0, 0, 0⟩) := ⟨by unfold ctrOf; rw [if_pos h13]⟩
            rw [h13] at y0
            go_wp2_with fail
            have hBx := below_drew (below_alloc (Below.refl wr.heap.size wr) (.cells #[.int .u8 13, .int .i64 i.f1, .int .i64 i.f2, .int .i64 i.f3, .int .i64 i.f4, .string i.f5] 51))
            have hX := blk_drew (blk_new wr (.cells #[.int .u8 13, .int .i64 i.f1, .int .i64 i.f2, .int .i64 i.f3, .int .i64 i.f4, .string i.f5] 51))
            obtain ⟨bb, w8, r1, r2, r3, hg8, ⟨w9, r4, hN10⟩, _⟩ := (HN9.out.step hBx).inc ⟨14, 10 + i.f4, 0, 0, 0⟩
            have hX8 := (hg8.block _ (blk_lt hX) (fun e => by injection e with e; have := HN9.out.lt; omega)).trans hX
            obtain ⟨v0, v1, v2, v3, v4, v5⟩ := blk6 hX8
            have HN10 := Aside0.mk hN10
            have hc1 := Nat.le_trans (List.count_le_length (a := (⟨14, 10 + i.f4, 0, 0, 0⟩ : S53)) (l := M)) HLM.out
            obtain ⟨v, hv⟩ : ∃ v : Int, (List.count (⟨14, 10 + i.f4, 0, 0, 0⟩ : S53) M : Int) - (List.count (⟨14, 10 + i.f4, 0, 0, 0⟩ : S53) [] : Int) = v := ⟨_, rfl⟩
            have hvb : 0 ≤ v ∧ v ≤ 1000 := by rw [List.count_nil] at hv; omega
            simp only [hv, encI] at r1 r2 r3 r4
            have hib : 0 ≤ i.f4 ∧ i.f4 ≤ 3 := by rcases insOk_cases HII.out with h | h | h | h | h | h | h | h | h | h | h | h | h | h | h | h <;> omega
            have hw1 : IntKind.i64.wrap (10 + i.f4) = 10 + i.f4 := IntWalk.i64_in _ (by omega)
            have hw2 : IntKind.i64.wrap (v + 1) = v + 1 := IntWalk.i64_in _ (by omega)
            obtain ⟨hv0, hv1⟩ := hvb
            obtain ⟨hi0, hi1⟩ := hib
            clear hX hX8 hBx hN10 hg8 hv hc1
            go_region
            all_goals
              go_wp2
              go_roundw
              case rel => exact ⟨j + 1, rfl, by omega, by omega, ⟨by rw [HST.out, HQ.out]; exact HN10.out⟩⟩
              case measure => simp [intOf]; omega
          by_cases h14 : i.f0 = 14
          · have HQ : Aside0 (ctrOf i = some ⟨15, 10 + i.f4, 10 + i.f4, 0, 1⟩) := ⟨by unfold ctrOf; rw [if_neg h13, if_pos h14]⟩
            rw [h14] at y0
            go_wp2_with fail
            have hBx := below_drew (below_alloc (Below.refl wr.heap.size wr) (.cells #[.int .u8 14, .int .i64 i.f1, .int .i64 i.f2, .int .i64 i.f3, .int .i64 i.f4, .string i.f5] 51))
            have hX := blk_drew (blk_new wr (.cells #[.int .u8 14, .int .i64 i.f1, .int .i64 i.f2, .int .i64 i.f3, .int .i64 i.f4, .string i.f5] 51))
            obtain ⟨bb, w8, r1, r2, r3, hg8, ⟨w9, r4, hN10⟩, _⟩ := (HN9.out.step hBx).inc ⟨15, 10 + i.f4, 10 + i.f4, 0, 1⟩
            have hX8 := (hg8.block _ (blk_lt hX) (fun e => by injection e with e; have := HN9.out.lt; omega)).trans hX
            obtain ⟨v0, v1, v2, v3, v4, v5⟩ := blk6 hX8
            have HN10 := Aside0.mk hN10
            have hc1 := Nat.le_trans (List.count_le_length (a := (⟨15, 10 + i.f4, 10 + i.f4, 0, 1⟩ : S53)) (l := M)) HLM.out
            obtain ⟨v, hv⟩ : ∃ v : Int, (List.count (⟨15, 10 + i.f4, 10 + i.f4, 0, 1⟩ : S53) M : Int) - (List.count (⟨15, 10 + i.f4, 10 + i.f4, 0, 1⟩ : S53) [] : Int) = v := ⟨_, rfl⟩
            have hvb : 0 ≤ v ∧ v ≤ 1000 := by rw [List.count_nil] at hv; omega
            simp only [hv, encI] at r1 r2 r3 r4
            have hib : 0 ≤ i.f4 ∧ i.f4 ≤ 3 := by rcases insOk_cases HII.out with h | h | h | h | h | h | h | h | h | h | h | h | h | h | h | h <;> omega
            have hw1 : IntKind.i64.wrap (10 + i.f4) = 10 + i.f4 := IntWalk.i64_in _ (by omega)
            have hw2 : IntKind.i64.wrap (v + 1) = v + 1 := IntWalk.i64_in _ (by omega)
            obtain ⟨hv0, hv1⟩ := hvb
            obtain ⟨hi0, hi1⟩ := hib
            clear hX hX8 hBx hN10 hg8 hv hc1
            go_region
            all_goals
              go_wp2
              go_roundw
              case rel => exact ⟨j + 1, rfl, by omega, by omega, ⟨by rw [HST.out, HQ.out]; exact HN10.out⟩⟩
              case measure => simp [intOf]; omega
          by_cases h16 : i.f0 = 16
          · have HQ : Aside0 (ctrOf i = some ⟨25, 10 + i.f2, 0, 0, i.f4⟩) := ⟨by unfold ctrOf; rw [if_neg h13, if_neg h14, if_pos h16]⟩
            rw [h16] at y0
            go_wp2_with fail
            have hBx := below_drew (below_alloc (Below.refl wr.heap.size wr) (.cells #[.int .u8 16, .int .i64 i.f1, .int .i64 i.f2, .int .i64 i.f3, .int .i64 i.f4, .string i.f5] 51))
            have hX := blk_drew (blk_new wr (.cells #[.int .u8 16, .int .i64 i.f1, .int .i64 i.f2, .int .i64 i.f3, .int .i64 i.f4, .string i.f5] 51))
            obtain ⟨bb, w8, r1, r2, r3, hg8, ⟨w9, r4, hN10⟩, _⟩ := (HN9.out.step hBx).inc ⟨25, 10 + i.f2, 0, 0, i.f4⟩
            have hX8 := (hg8.block _ (blk_lt hX) (fun e => by injection e with e; have := HN9.out.lt; omega)).trans hX
            obtain ⟨v0, v1, v2, v3, v4, v5⟩ := blk6 hX8
            have HN10 := Aside0.mk hN10
            have hc1 := Nat.le_trans (List.count_le_length (a := (⟨25, 10 + i.f2, 0, 0, i.f4⟩ : S53)) (l := M)) HLM.out
            obtain ⟨v, hv⟩ : ∃ v : Int, (List.count (⟨25, 10 + i.f2, 0, 0, i.f4⟩ : S53) M : Int) - (List.count (⟨25, 10 + i.f2, 0, 0, i.f4⟩ : S53) [] : Int) = v := ⟨_, rfl⟩
            have hvb : 0 ≤ v ∧ v ≤ 1000 := by rw [List.count_nil] at hv; omega
            simp only [hv, encI] at r1 r2 r3 r4
            have hib : 0 ≤ i.f2 ∧ i.f2 ≤ 3 := by rcases insOk_cases HII.out with h | h | h | h | h | h | h | h | h | h | h | h | h | h | h | h <;> omega
            have hw1 : IntKind.i64.wrap (10 + i.f2) = 10 + i.f2 := IntWalk.i64_in _ (by omega)
            have hw2 : IntKind.i64.wrap (v + 1) = v + 1 := IntWalk.i64_in _ (by omega)
            obtain ⟨hv0, hv1⟩ := hvb
            obtain ⟨hi0, hi1⟩ := hib
            clear hX hX8 hBx hN10 hg8 hv hc1
            go_region
            all_goals
              go_wp2
              go_roundw
              case rel => exact ⟨j + 1, rfl, by omega, by omega, ⟨by rw [HST.out, HQ.out]; exact HN10.out⟩⟩
              case measure => simp [intOf]; omega
          have HQ : Aside0 (ctrOf i = none) := ⟨by unfold ctrOf; rw [if_neg h13, if_neg h14, if_neg h16]⟩
          have e1 := beq_eq_false_iff_ne.2 h13
          have e2 := beq_eq_false_iff_ne.2 h14
          have e3 := beq_eq_false_iff_ne.2 h16
          clear h13 h14 h16
          go_wp2_with fail
          go_roundw
          case rel => exact ⟨j + 1, rfl, by omega, by omega, ⟨by rw [HST.out, HQ.out, Option.toList_none, List.append_nil]; exact HN9.out.step (below_alloc (Below.refl _ _) _)⟩⟩
          case measure => simp [intOf]; omega
        · have q111 := eq_false hltj
          have HFIN := Aside0.mk (show M = (blks.take (k + 1).toNat).flatMap (fun b => b.f0.filterMap ctrOf) from by
            rw [show (k + 1).toNat = k.toNat + 1 from by omega, HLB.out k.toNat rfl, ← HMM.out, List.take_of_length_le (by omega)])
          go_wp2_with fail
          go_roundw
          case rel => exact ⟨k + 1, rfl, by omega, by omega, ⟨by rw [← HFIN.out]; exact HN9.out⟩⟩
          case measure => simp [intOf]; omega
    · have q110 := eq_false hlt
      have HLL := Aside0.mk (show L = blks.flatMap (fun b => b.f0.filterMap ctrOf) from by rw [← HL.out, List.take_of_length_le (by omega)])
      have HLN := Aside0.mk (show L.length ≤ 400 by
        rw [← HL.out]
        have h1 := ctrTo_len blks k.toNat (by omega)
        have h2 := sumTo_le blks (show k.toNat ≤ blks.length by omega)
        have h3 := sumTo_eq blks
        have h4 := HS.out.2.2.2.1
        omega)
      go_wp2_with fail
      clear o0 o1 o2 o3 hlr
      go_loopw [11] (fun i wr9 => ∃ j : Int, i = .int .i64 j ∧ 0 ≤ j ∧ j ≤ code.length ∧ Aside0 (CtrSt W3 wr9 mb L ((code.take j.toNat).filter ctr))) (fun i wr9 => code.length - (intOf i).toNat)
      case atStart => exact ⟨0, rfl, Int.le_refl _, by omega, ⟨by simpa using HN.out⟩⟩
      case round =>
        obtain ⟨j, rfl, hj0, hj, HN9⟩ := hrel
        obtain ⟨K, hK⟩ : ∃ K, (code.take j.toNat).filter ctr = K := ⟨_, rfl⟩
        rw [hK] at HN9
        have HKK := Aside0.mk hK
        clear hK HN
        have HO9 := Aside0.mk (blk_below HBO.out HN9.out.below)
        obtain ⟨z0, z1, z2, z3⟩ := blk4 HO9.out
        have hl9 := blk_lt HO9.out
        by_cases hltj : j < code.length
        · obtain ⟨ai, hA2, y0, y1, y2, y3, y4⟩ := at_T53 HCC3.out j hj0 hltj
          cases hA2
          replace y0 := (HN9.out.below.cell (World.block_lt_of_cell? W3 _ y0)).trans y0
          replace y1 := (HN9.out.below.cell (World.block_lt_of_cell? W3 _ y1)).trans y1
          replace y2 := (HN9.out.below.cell (World.block_lt_of_cell? W3 _ y2)).trans y2
          replace y3 := (HN9.out.below.cell (World.block_lt_of_cell? W3 _ y3)).trans y3
          replace y4 := (HN9.out.below.cell (World.block_lt_of_cell? W3 _ y4)).trans y4
          have p111 := eq_true hj0
          have q111 := eq_true hltj
          obtain ⟨x, hx⟩ : ∃ x, rd_T53 code j = x := ⟨_, rfl⟩
          have hxx : code[j.toNat]'(by omega) = rd_T53 code j := by
            have := rd_Instr_get code j.toNat (by omega)
            rw [show ((j.toNat : Nat) : Int) = j by omega] at this
            exact this.symm
          have HXI : Aside0 (instrB x = true) := ⟨by
            have := HINS.out j.toNat (by omega)
            rwa [show ((j.toNat : Nat) : Int) = j by omega, hx] at this⟩
          have HST := Aside0.mk (show (code.take (j + 1).toNat).filter ctr = K ++ (if ctr x = true then [x] else []) from by
            rw [show (j + 1).toNat = j.toNat + 1 from by omega, List.take_add_one, List.getElem?_eq_getElem (by omega), List.filter_append, HKK.out, hxx, hx]
            simp only [Option.toList_some, List.filter_cons, List.filter_nil])
          rw [hx] at y0 y1 y2 y3 y4
          clear hx hxx
          have HKN := Aside0.mk (show K.length ≤ 4400 by
            rw [← HKK.out]
            have h1 := List.length_filter_le ctr (code.take j.toNat)
            rw [List.length_take] at h1
            omega)
          go_wp2_with fail
          refine (writes_any x wr HXI.out).mono ?_
          rintro e w8 ⟨rfl, hb8⟩
          have HN8 := Aside0.mk (HN9.out.step hb8)
          have HO8 := Aside0.mk (blk_below HO9.out hb8)
          replace y0 := (hb8.cell (World.block_lt_of_cell? wr _ y0)).trans y0
          replace y1 := (hb8.cell (World.block_lt_of_cell? wr _ y1)).trans y1
          replace y2 := (hb8.cell (World.block_lt_of_cell? wr _ y2)).trans y2
          replace y3 := (hb8.cell (World.block_lt_of_cell? wr _ y3)).trans y3
          replace y4 := (hb8.cell (World.block_lt_of_cell? wr _ y4)).trans y4
          clear hb8 z0 z1 z2 z3
          obtain ⟨z0, z1, z2, z3⟩ := blk4 HO8.out
          have hl8 := blk_lt HO8.out
          cases hwr : wrOp x.f0 with
          | true =>
            have hne : x.f0 ≠ 25 := by intro h; rw [h] at hwr; revert hwr; decide
            have e25 := beq_eq_false_iff_ne.2 hne
            clear hne
            simp only [if_true, Bool.true_and]
            by_cases h0 : x.f1 = 0
            · have HCX : Aside0 (ctr x = false) := ⟨by unfold ctr; rw [decide_eq_false (show ¬ 10 ≤ x.f1 by omega)]; simp⟩
              have e0 : (x.f1 == 0) = true := beq_iff_eq.2 h0
              rw [e0]
              clear h0
              go_wp2_with fail
              go_roundw
              case rel => exact ⟨j + 1, rfl, by omega, by omega, ⟨by rw [HST.out, if_neg (by rw [HCX.out]; decide), List.append_nil]; exact HN8.out⟩⟩
              case measure => simp [intOf]; omega
            have e0 := beq_eq_false_iff_ne.2 h0
            rw [e0]
            by_cases h10 : 10 ≤ x.f1
            · have d10 := decide_eq_true h10
              by_cases h13 : x.f1 ≤ 13
              · have d13 := decide_eq_true h13
                have HCX : Aside0 (ctr x = true) := ⟨by unfold ctr; rw [hwr, d10, d13]; rfl⟩
                clear h0 hwr
                go_wp2_with fail
                obtain ⟨bb, wq, r1, r2, r3, hgq, _, ⟨w9, r4, hN10⟩⟩ := (HN8.out.step (below_drew (Below.refl _ w8))).inc x
                have HN10 := Aside0.mk hN10
                have hc1 := Nat.le_trans (List.count_le_length (a := x) (l := L)) HLN.out
                have hc2 := Nat.le_trans (List.count_le_length (a := x) (l := K)) HKN.out
                obtain ⟨v, hv⟩ : ∃ v : Int, (List.count x L : Int) - (List.count x K : Int) = v := ⟨_, rfl⟩
                have hvb : -5000 ≤ v ∧ v ≤ 5000 := by omega
                simp only [hv, encI] at r1 r2 r3 r4
                have hw2 : IntKind.i64.wrap (v - 1) = v - 1 := IntWalk.i64_in _ (by omega)
                obtain ⟨hv0, hv1⟩ := hvb
                clear hN10 hgq hv hc1 hc2
                go_region
                all_goals
                  go_wp2
                  go_roundw
                  case rel => exact ⟨j + 1, rfl, by omega, by omega, ⟨by rw [HST.out, if_pos HCX.out]; exact HN10.out⟩⟩
                  case measure => simp [intOf]; omega
              · have d13 := decide_eq_false h13
                have HCX : Aside0 (ctr x = false) := ⟨by unfold ctr; rw [d13]; simp⟩
                clear h0 hwr
                go_wp2_with fail
                go_roundw
                case rel => exact ⟨j + 1, rfl, by omega, by omega, ⟨by rw [HST.out, if_neg (by rw [HCX.out]; decide), List.append_nil]; exact HN8.out⟩⟩
                case measure => simp [intOf]; omega
            · have d10 := decide_eq_false h10
              have HCX : Aside0 (ctr x = false) := ⟨by unfold ctr; rw [d10]; simp⟩
              clear h0 hwr
              go_wp2_with fail
              go_roundw
              case rel => exact ⟨j + 1, rfl, by omega, by omega, ⟨by rw [HST.out, if_neg (by rw [HCX.out]; decide), List.append_nil]; exact HN8.out⟩⟩
              case measure => simp [intOf]; omega
          | false =>
            simp only [Bool.false_eq_true, if_false, Bool.false_and]
            by_cases h25 : x.f0 = 25
            · have e25 : (x.f0 == 25) = true := beq_iff_eq.2 h25
              by_cases h10 : 10 ≤ x.f1
              · have d10 := decide_eq_true h10
                by_cases h13 : x.f1 ≤ 13
                · have d13 := decide_eq_true h13
                  have HCX : Aside0 (ctr x = true) := ⟨by unfold ctr; rw [e25, d10, d13]; simp⟩
                  clear hwr h25
                  go_wp2_with fail
                  obtain ⟨bb, wq, r1, r2, r3, hgq, _, ⟨w9, r4, hN10⟩⟩ := (HN8.out.step (below_drew (Below.refl _ w8))).inc x
                  have HN10 := Aside0.mk hN10
                  have hc1 := Nat.le_trans (List.count_le_length (a := x) (l := L)) HLN.out
                  have hc2 := Nat.le_trans (List.count_le_length (a := x) (l := K)) HKN.out
                  obtain ⟨v, hv⟩ : ∃ v : Int, (List.count x L : Int) - (List.count x K : Int) = v := ⟨_, rfl⟩
                  have hvb : -5000 ≤ v ∧ v ≤ 5000 := by omega
                  simp only [hv, encI] at r1 r2 r3 r4
                  have hw2 : IntKind.i64.wrap (v - 1) = v - 1 := IntWalk.i64_in _ (by omega)
                  obtain ⟨hv0, hv1⟩ := hvb
                  clear hN10 hgq hv hc1 hc2
                  go_region
                  all_goals
                    go_wp2
                    go_roundw
                    case rel => exact ⟨j + 1, rfl, by omega, by omega, ⟨by rw [HST.out, if_pos HCX.out]; exact HN10.out⟩⟩
                    case measure => simp [intOf]; omega
                · have d13 := decide_eq_false h13
                  have HCX : Aside0 (ctr x = false) := ⟨by unfold ctr; rw [d13]; simp⟩
                  clear hwr h25
                  go_wp2_with fail
                  go_roundw
                  case rel => exact ⟨j + 1, rfl, by omega, by omega, ⟨by rw [HST.out, if_neg (by rw [HCX.out]; decide), List.append_nil]; exact HN8.out⟩⟩
                  case measure => simp [intOf]; omega
              · have d10 := decide_eq_false h10
                have HCX : Aside0 (ctr x = false) := ⟨by unfold ctr; rw [d10]; simp⟩
                clear hwr h25
                go_wp2_with fail
                go_roundw
                case rel => exact ⟨j + 1, rfl, by omega, by omega, ⟨by rw [HST.out, if_neg (by rw [HCX.out]; decide), List.append_nil]; exact HN8.out⟩⟩
                case measure => simp [intOf]; omega
            · have e25 := beq_eq_false_iff_ne.2 h25
              have HCX : Aside0 (ctr x = false) := ⟨by unfold ctr; rw [hwr, e25]; simp⟩
              clear hwr h25
              go_wp2_with fail
              go_roundw
              case rel => exact ⟨j + 1, rfl, by omega, by omega, ⟨by rw [HST.out, if_neg (by rw [HCX.out]; decide), List.append_nil]; exact HN8.out⟩⟩
              case measure => simp [intOf]; omega
        · have q111 := eq_false hltj
          obtain ⟨l, hIM, hbal⟩ := HN9.out.map
          have hz : ∀ s, bal l s = 0 := fun s => by
            have h1 := HCTR.out
            rw [← HLL.out] at h1
            rw [hbal s, ← HKK.out, List.take_of_length_le (by omega), h1]
            omega
          obtain ⟨w1', n', hr8, hI8, hb8, hs8⟩ := iiter_range hIM hz
          have HI8 := Aside0.mk hI8
          have HFB := Aside0.mk (below_step (below_step HBm.out HN9.out.below) hb8)
          clear hIM hbal hz hI8 hb8 hs8
          go_wp2_with fail
          go_loopg [] n' (fun m wx => Aside0 (IIter wx wr.heap.size mb m) ∧ Aside0 (Below w.heap.size w wx))
          case atStart => exact ⟨HI8, HFB⟩
          case round =>
            clear hr8 HI8 HFB
            obtain ⟨HI9, HFB⟩ := hrel
            rcases iiter_next HI9.out 0 with hrn | ⟨kk, vv, n1, w10, hlt1, hrn, hre, hI10, hg10, hs10⟩
            · go_wp2
              go_ret
              exact ⟨rfl, HFB.out⟩
            · have HI10 := Aside0.mk hI10
              have HFB2 := Aside0.mk (HFB.out.grown hg10 HFB.out.size (fun q hq => by injection hq with hq; have := HN9.out.below.size; omega))
              have HLT := Aside0.mk hlt1
              clear hI10 hg10 hs10 hlt1
              go_wp2
              go_roundg n1
              case rel => exact ⟨HI10, HFB2⟩
              case measure => exact HLT.out
end Go.Proofs.Ytadaopfcgpfiiaa
