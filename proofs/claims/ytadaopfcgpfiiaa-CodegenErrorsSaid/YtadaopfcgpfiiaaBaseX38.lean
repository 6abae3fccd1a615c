/- Lemmas: what the theorem of the claim's last text needs, joined by a program out of the seat's texts Q3. -/
import Derived.Test.YtadaopfcgpfiiaaBaseX37
namespace Go.Proofs.Ytadaopfcgpfiiaa
open Go.RowKit Go.Proofs.YtadaopfcgpfiiaaW.PrintWords Go.Proofs.YtadaopfcgpfiiaaW.PrintLast Go.Proofs.YtadaopfcgpfiiaaW.PrintMore PCg
set_option linter.unusedVariables false
set_option linter.unusedSimpArgs false
theorem task_both (nm : ByteArray) (regs : Int) (A : Option Addr) (c : Nat) (arrs : List S44) (A3 : Option Addr) (c3 : Nat) (blks : List S49) (w : World)
    (hr : Kd.C k44 w A arrs.length arrs) (hcp : arrs.length ≤ c) (hr3 : Kd.C k49 w A3 blks.length blks) (hcp3 : blks.length ≤ c3)
    (hs : Small regs arrs blks) (hns : ∀ a ∈ arrs, a.f0.size ≤ maxLen) (hnb : ∀ b ∈ blks, ∀ i ∈ b.f0, i.f5.size ≤ maxLen) :
    Calls Try.prog 12 #[.agg #[.string nm, .int .i64 regs, .slice A arrs.length c, .slice A3 blks.length c3]] w (fun e w' =>
      (irOk regs arrs blks (mentL blks) = false ∧ e = .returned (.tuple #[zeroObj, .int .i64 3]) ∧ Below w.heap.size w w') ∨ (irOk regs arrs blks (mentL blks) = true ∧ TaskGood nm regs arrs blks w e w')) := by
  obtain ⟨s1, s2, s3, s4, s5⟩ := hs
  cases h : irOk regs arrs blks (mentL blks) with
  | true => exact (task_good nm regs A c arrs A3 c3 blks w hr hcp hr3 hcp3 s2 s1 s4 hns hnb h).mono fun e w' h => .inr ⟨rfl, h⟩
  | false =>
    refine (task_small nm regs A c arrs A3 c3 blks w hr hcp hr3 hcp3 (by omega) (by omega) (by omega) hns hnb).mono fun e w' h' => ?_
    rcases h' with ⟨_, h1, h2⟩ | ⟨h1, _⟩
    · exact .inl ⟨rfl, h1, h2⟩
    · rw [h] at h1; cases h1
theorem size_wide {blks : List S49} (h : ∀ b ∈ blks, b.f0.length ≤ 30) : ∀ b ∈ blks, b.f0.length ≤ 9223372036854775806 := fun b hb => by have := h b hb; omega
set_option maxRecDepth 100000 in
set_option maxHeartbeats 4000000 in
theorem lawValid_any (nm : ByteArray) (regs : Int) (A : Option Addr) (c : Nat) (arrs : List S44) (A3 : Option Addr) (c3 : Nat) (blks : List S49) (A2 : Option Addr) (c2 : Nat) (shared : List S44) (w : World)
    (hr : Kd.C k44 w A arrs.length arrs) (hcp : arrs.length ≤ c) (hr3 : Kd.C k49 w A3 blks.length blks) (hcp3 : blks.length ≤ c3) (hr2 : Kd.C k44 w A2 shared.length shared) (hcp2 : shared.length ≤ c2)
    (hns : ∀ a ∈ arrs, a.f0.size ≤ maxLen) (hnb : ∀ b ∈ blks, ∀ i ∈ b.f0, i.f5.size ≤ maxLen) :
    Calls Try.prog 3 #[.agg #[.string nm, .int .i64 regs, .slice A arrs.length c, .slice A3 blks.length c3], .slice A2 shared.length c2] w fun e w' => e = .returned (.bool true) ∧ Below w.heap.size w w' := by
  have HR := Aside0.mk hr; have HR2 := Aside0.mk hr2; have HR3 := Aside0.mk hr3; have HNS := Aside0.mk hns; have HNB := Aside0.mk hnb
  clear hr hr2 hr3 hns hnb
  have hu := Try.underlying25
  have hu2 := Try.underlying31
  have HBA := Aside0.mk (below_alloc (Below.refl w.heap.size w) (.cells #[.string nm, .int .i64 regs, .slice A arrs.length c, .slice A3 blks.length c3] 25))
  have HO := Aside0.mk (blk_new w (.cells #[.string nm, .int .i64 regs, .slice A arrs.length c, .slice A3 blks.length c3] 25))
  go_enter Try.func3, Try.ntmps3
  go_wp2_with fail
  refine (awake_any _).mono ?_
  rintro e w1 ⟨rfl, hb1⟩
  have hO1 := blk_below HO.out hb1
  have HB1 := Aside0.mk (below_step HBA.out hb1)
  have hlF := blk_lt hO1
  have HO1 := Aside0.mk hO1
  clear hb1 hO1 HO HBA
  obtain ⟨o0, o1, o2, o3⟩ := blk4 HO1.out
  go_wp2_with fail
  rcases small_f nm regs arrs blks with hs | ⟨hs, hS⟩
  · refine (ontimelaw21_small.calls 100 nm regs A c arrs A3 c3 blks 0 w1 (Kd.C_below HR.out HB1.out) hcp (Kd.C_below HR3.out HB1.out) hcp3 hs).mono ?_
    rintro e w2 ⟨rfl, hb2⟩
    have HB2 := Aside0.mk (below_step HB1.out hb2); clear hb2
    go_wp2
    go_ret
    exact ⟨rfl, HB2.out⟩
  refine (ontimelaw21_small.calls 100 nm regs A c arrs A3 c3 blks 1 w1 (Kd.C_below HR.out HB1.out) hcp (Kd.C_below HR3.out HB1.out) hcp3 hs).mono ?_
  rintro e w2 ⟨rfl, hb2⟩
  have HS := Aside0.mk hS
  have HO2 := Aside0.mk (blk_below HO1.out hb2)
  have HB2 := Aside0.mk (below_step HB1.out hb2); clear hb2 hS hs
  clear o0 o1 o2 o3
  obtain ⟨o0, o1, o2, o3⟩ := blk4 HO2.out
  by_cases h4 : (4 : Int) < shared.length
  · have h4b := decide_eq_true h4
    go_wp2
    go_ret
    exact ⟨rfl, HB2.out⟩
  have h4b := decide_eq_false h4
  go_wp2_with fail
  refine (task_both nm regs A c arrs A3 c3 blks w2 (Kd.C_below HR.out HB2.out) hcp (Kd.C_below HR3.out HB2.out) hcp3 HS.out HNS.out HNB.out).mono ?_
  rintro e w3 (⟨hm, rfl, hb3⟩ | ⟨hm, st, places, slots, vc, vr, _, hA, rfl, hC, hRf, hb3, hG, hl, hl2, hV⟩)
  · have hsh : irOk regs arrs blks shared = false := by
      rw [Bool.eq_false_iff]; intro h; rw [irOk_ment h] at hm; cases hm
    have HSH := Aside0.mk hsh
    have HO3 := Aside0.mk (blk_below HO2.out hb3)
    have HB3 := Aside0.mk (below_step HB2.out hb3); clear hb3 hsh hm
    clear o0 o1 o2 o3
    obtain ⟨o0, o1, o2, o3⟩ := blk4 HO3.out
    have hlF3 := blk_lt HO3.out
    unfold zeroObj
    go_wp2_with fail
    have HON := Aside0.mk (blk_new w3 (.cells #[.string ⟨#[]⟩, .slice none 0 0, .int .i64 0, .slice none 0 0] 31))
    have HB3a := Aside0.mk (below_alloc HB3.out (.cells #[.string ⟨#[]⟩, .slice none 0 0, .int .i64 0, .slice none 0 0] 31))
    refine (irValid_any nm regs A c arrs A3 c3 blks A2 c2 shared _ (Kd.C_below HR.out HB3a.out) hcp (Kd.C_below HR3.out HB3a.out) hcp3 (by have := HS.out.1; omega) (size_wide HS.out.2.2.2.2) (Kd.C_below HR2.out HB3a.out) hcp2 (by omega)).mono ?_
    rw [HSH.out]
    rintro e w4 ⟨rfl, hb4⟩
    have HON4 := Aside0.mk (blk_below HON.out hb4)
    have HB4 := Aside0.mk (below_step HB3a.out hb4); clear hb4 o0 o1 o2 o3
    obtain ⟨z0, z1, z2, z3⟩ := blk4 HON4.out
    have hlz := blk_lt HON4.out
    go_wp2_with fail
    refine (cgValid_any ⟨#[]⟩ none 0 [] 0 none 0 [] w4 ⟨rfl, by simp, by simp⟩ (Nat.le_refl _) ⟨rfl, by simp, by simp⟩ (Nat.le_refl _) (by simp) (by simp) (by simp)).mono ?_
    rintro e w5 ⟨rfl, hb5⟩
    have HB5 := Aside0.mk (below_step HB4.out hb5); clear hb5
    rw [show objB [] 0 [] = false from rfl]
    go_wp2
    go_ret
    exact ⟨rfl, HB5.out⟩
  · obtain ⟨Ac, cc, rfl⟩ := Kd.R_slice hC
    obtain ⟨Ar, cr, rfl⟩ := Kd.R_slice hRf
    obtain ⟨_, hcc, hCC⟩ := Kd.R_reads' hC
    obtain ⟨_, hcr, hCR⟩ := Kd.R_reads' hRf
    obtain ⟨sz, hsz⟩ : ∃ sz, layA arrs arrs.length = sz := ⟨_, rfl⟩
    have HSL := Aside0.mk hA.2.1
    obtain ⟨d, hd⟩ : ∃ d, sz + slots = d := ⟨_, rfl⟩
    have HSZ := Aside0.mk hsz
    rw [hsz, hd] at hV
    rw [hsz, hd]
    have HD := Aside0.mk (show sz ≤ d by have := HSL.out; omega)
    have hl0 := patch_len hG
    have hok := fun W (hB : Below w3.heap.size w3 W) => cgValid_any nm Ac cc (patchAll st) d Ar cr st.refs W (Kd.C_below hCC hB) hcc (Kd.C_below hCR hB) hcr (by omega) (by omega) (patch_ops hG)
    rw [hV] at hok
    have HOK := Aside0.mk hok; clear hok
    generalize (patchAll st).length = n1 at *
    generalize st.refs.length = n2 at *
    have HO3 := Aside0.mk (blk_below HO2.out hb3)
    have HB3 := Aside0.mk (below_step HB2.out hb3)
    clear hb3 hC hRf hCC hCR hG hV hl0 hl hl2 hcc hcr hA hsz hd
    clear o0 o1 o2 o3
    obtain ⟨o0, o1, o2, o3⟩ := blk4 HO3.out
    have hlF3 := blk_lt HO3.out
    have HON := Aside0.mk (blk_new w3 (.cells #[.string nm, .slice Ac n1 cc, .int .i64 d, .slice Ar n2 cr] 31))
    have HB3a := Aside0.mk (below_alloc HB3.out (.cells #[.string nm, .slice Ac n1 cc, .int .i64 d, .slice Ar n2 cr] 31))
    have HOa := Aside0.mk (blk_alloc HO3.out (.cells #[.string nm, .slice Ac n1 cc, .int .i64 d, .slice Ar n2 cr] 31))
    have HBa := Aside0.mk (below_alloc (Below.refl w3.heap.size w3) (.cells #[.string nm, .slice Ac n1 cc, .int .i64 d, .slice Ar n2 cr] 31))
    go_wp2_with fail
    refine (irValid_any nm regs A c arrs A3 c3 blks A2 c2 shared _ (Kd.C_below HR.out HB3a.out) hcp (Kd.C_below HR3.out HB3a.out) hcp3 (by have := HS.out.1; omega) (size_wide HS.out.2.2.2.2) (Kd.C_below HR2.out HB3a.out) hcp2 (by omega)).mono ?_
    rintro e w4 ⟨rfl, hb4⟩
    have HON4 := Aside0.mk (blk_below HON.out hb4)
    have HO4 := Aside0.mk (blk_below HOa.out hb4)
    have HB4 := Aside0.mk (below_step HB3a.out hb4)
    have HBb := Aside0.mk (below_step HBa.out hb4); clear hb4 o0 o1 o2 o3
    obtain ⟨o0, o1, o2, o3⟩ := blk4 HO4.out
    obtain ⟨z0, z1, z2, z3⟩ := blk4 HON4.out
    have hlz := blk_lt HON4.out
    cases hv : irOk regs arrs blks shared with
    | false =>
      go_wp2
      go_ret
      exact ⟨rfl, HB4.out⟩
    | true =>
      go_wp2_with fail
      refine (codegen_Layout.calls 100 A c arrs _ _ w4 (Kd.C_below HR.out HB4.out) hcp (layout_f arrs (by have := HS.out.2.2.1; omega) 100 (by have := HS.out.2.2.1; omega))).mono ?_
      rintro e w5 ⟨v5, rfl, hR5, hb5⟩
      obtain ⟨A5, c5, rfl⟩ := Kd.R_slice hR5
      have HON5 := Aside0.mk (blk_below HON4.out hb5)
      have HO5 := Aside0.mk (blk_below HO4.out hb5)
      have HB5 := Aside0.mk (below_step HB4.out hb5)
      have HBc := Aside0.mk (below_step HBb.out hb5); clear hb5 o0 o1 o2 o3 z0 z1 z2 z3 hR5
      obtain ⟨o0, o1, o2, o3⟩ := blk4 HO5.out
      obtain ⟨z0, z1, z2, z3⟩ := blk4 HON5.out
      rw [HSZ.out]
      generalize (layAll arrs arrs.length).length = n5
      go_wp2_with fail
      refine (HOK.out w5 HBc.out).mono ?_
      rintro e w6 ⟨rfl, hb6⟩
      have HON6 := Aside0.mk (blk_below HON5.out hb6)
      have HO6 := Aside0.mk (blk_below HO5.out hb6)
      have HB6 := Aside0.mk (below_step HB5.out hb6); clear hb6 o0 o1 o2 o3 z0 z1 z2 z3
      obtain ⟨o0, o1, o2, o3⟩ := blk4 HO6.out
      obtain ⟨z0, z1, z2, z3⟩ := blk4 HON6.out
      have hge : decide (sz ≤ d) = true := decide_eq_true HD.out
      go_wp2
      go_ret
      exact ⟨rfl, HB6.out⟩
end Go.Proofs.Ytadaopfcgpfiiaa
