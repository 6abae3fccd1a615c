/- Lemmas: what the theorem of the claim's last text needs, joined by a program out of the seat's texts Q4. -/
import Derived.Test.YtadaopfcgpfiiaaBaseX38
import Derived.Test.YtadaopfcgpfiiaaCErrorsX00
namespace Go.Proofs.Ytadaopfcgpfiiaa
open Go.RowKit Go.Proofs.YtadaopfcgpfiiaaW.PrintWords Go.Proofs.YtadaopfcgpfiiaaW.PrintLast Go.Proofs.YtadaopfcgpfiiaaW.PrintMore PCg
set_option linter.unusedVariables false
set_option linter.unusedSimpArgs false
theorem rix_go (acc : List S44) (nm : ByteArray) (hl : acc.length ≤ 100000) : ∀ n j fuel : Nat, j + n = acc.length → n < fuel → hasName (acc.take j) nm = false →
    ∃ r, ontimeref17_Index.l0 fuel acc nm (j : Int) = some r ∧ ((hasName acc nm = true ∧ 0 ≤ r) ∨ (hasName acc nm = false ∧ r = -1)) := by
  intro n
  induction n with
  | zero =>
    intro j fuel hj hf hn
    obtain ⟨f, rfl⟩ : ∃ f, fuel = f + 1 := ⟨fuel - 1, by omega⟩
    unfold ontimeref17_Index.l0
    rw [if_neg (by omega)]
    rw [List.take_of_length_le (by omega)] at hn
    exact ⟨-1, rfl, .inr ⟨hn, rfl⟩⟩
  | succ n ih =>
    intro j fuel hj hf hn
    obtain ⟨f, rfl⟩ : ∃ f, fuel = f + 1 := ⟨fuel - 1, by omega⟩
    unfold ontimeref17_Index.l0
    rw [if_pos (by omega), if_pos (by omega)]
    have ht : hasName (acc.take (j + 1)) nm = (hasName (acc.take j) nm || ((rd_T44 acc (j : Int)).f0.toList == nm.toList)) := by
      rw [List.take_add_one, List.getElem?_eq_getElem (by omega), hasName_append, rd_Arr_get _ _ (by omega)]
      simp [hasName]
    by_cases e : (rd_T44 acc (j : Int)).f0.toList = nm.toList
    · rw [if_pos e]
      refine ⟨_, rfl, .inl ⟨?_, by omega⟩⟩
      rw [hn, beq_iff_eq.2 e] at ht
      obtain ⟨a, ha, he⟩ := (hasName_iff _ _).1 ht
      exact (hasName_iff _ _).2 ⟨a, List.mem_of_mem_take ha, he⟩
    · rw [if_neg e, w64 (by omega), show (j : Int) + 1 = ((j + 1 : Nat) : Int) by omega]
      exact ih (j + 1) f (by omega) (by omega) (by rw [ht, hn]; simpa using e)
theorem rix_f (acc : List S44) (nm : ByteArray) (hl : acc.length ≤ 100000) : ∃ r, ontimeref17_Index.f (acc.length + 1) acc nm = some r ∧ ((hasName acc nm = true ∧ 0 ≤ r) ∨ (hasName acc nm = false ∧ r = -1)) :=
  rix_go acc nm hl acc.length 0 _ (by omega) (by omega) (by simp [hasName])
theorem index_any (A : Option Addr) (c : Nat) (acc : List S44) (nm : ByteArray) (hl : acc.length ≤ 100000) (hc : acc.length ≤ c) :
    ∃ r, ((hasName acc nm = true ∧ 0 ≤ r) ∨ (hasName acc nm = false ∧ r = -1)) ∧ ∀ W, Kd.C k44 W A acc.length acc → Calls Try.prog 20 #[.slice A acc.length c, .string nm] W fun e w' => e = .returned (.int .i64 r) ∧ Below W.heap.size W w' := by
  obtain ⟨r, h, hr⟩ := rix_f acc nm hl
  exact ⟨r, hr, fun W hC => (ontimeref17_Index.calls _ A c acc nm r W hC hc h).mono fun e w' h => ⟨h.1, h.2.below⟩⟩
theorem ment_take_len (blks : List S49) : ∀ q : Nat, q ≤ blks.length → ((blks.take q).foldl mentB []).length ≤ sumTo blks q := by
  intro q
  induction q with
  | zero => intro _; simp [sumTo]
  | succ q ih =>
    intro hq
    rw [List.take_add_one, List.getElem?_eq_getElem (by omega), sumTo, rd_Blk_get _ _ (by omega)]
    simp only [Option.toList_some, List.foldl_append, List.foldl_cons, List.foldl_nil]
    have h2 := mentB_len blks[q].f0 ((blks.take q).foldl mentB [])
    have h3 := ih (by omega)
    change (List.foldl mentI _ _).length ≤ _
    omega
theorem infoArr : (Try.prog.info? 44).map (fun i => (i.zero, i.size, i.bytes)) = some (some (.agg #[.string ⟨#[]⟩, .int .i64 0]), 2, 24) := by kernel_rfl
/-- the objects collected so far -/
structure ErrSt (w2 wr : World) (v : Value) (acc : List S44) : Prop where
  row : Kd.R k44 44 wr w2.heap.size (fun _ => True) v acc
  below : Below w2.heap.size w2 wr
  ok : MentOk acc
theorem ErrSt.step {w2 wr w1 : World} {v : Value} {acc : List S44} (h : ErrSt w2 wr v acc) (hb : Below wr.heap.size wr w1) : ErrSt w2 w1 v acc := ⟨Kd.R_below h.row hb, below_step h.below hb, h.ok⟩
set_option maxRecDepth 100000 in
set_option maxHeartbeats 8000000 in
theorem lawErrors_any (nm : ByteArray) (regs : Int) (A : Option Addr) (c : Nat) (arrs : List S44) (A3 : Option Addr) (c3 : Nat) (blks : List S49) (w : World)
    (hr : Kd.C k44 w A arrs.length arrs) (hcp : arrs.length ≤ c) (hr3 : Kd.C k49 w A3 blks.length blks) (hcp3 : blks.length ≤ c3)
    (hns : ∀ a ∈ arrs, a.f0.size ≤ maxLen) (hnb : ∀ b ∈ blks, ∀ i ∈ b.f0, i.f5.size ≤ maxLen) :
    Calls Try.prog 7 #[.agg #[.string nm, .int .i64 regs, .slice A arrs.length c, .slice A3 blks.length c3]] w fun e w' => e = .returned (.bool true) ∧ Below w.heap.size w w' := by
  have HR := Aside0.mk hr; have HR3 := Aside0.mk hr3; have HNS := Aside0.mk hns; have HNB := Aside0.mk hnb
  clear hr hr3 hns hnb
  have hu := Try.underlying25
  have hu2 := Try.underlying31
  have hu3 := Try.underlying51
  have hu4 := Try.underlying44
  have hu5 := Try.underlying49
  have HBA := Aside0.mk (below_alloc (Below.refl w.heap.size w) (.cells #[.string nm, .int .i64 regs, .slice A arrs.length c, .slice A3 blks.length c3] 25))
  have HO := Aside0.mk (blk_new w (.cells #[.string nm, .int .i64 regs, .slice A arrs.length c, .slice A3 blks.length c3] 25))
  go_enter Try.func7, Try.ntmps7
  go_wp2_with fail
  refine (awake_any _).mono ?_
  rintro e w1 ⟨rfl, hb1⟩
  have hO1 := blk_below HO.out hb1
  have HB1 := Aside0.mk (below_step HBA.out hb1)
  have hlF := blk_lt hO1
  have HO1 := Aside0.mk hO1
  clear hb1 hO1 HO HBA
  obtain ⟨o0, o1, o2, o3⟩ := blk4 HO1.out
  go_wp2_with fail
  rcases small_f nm regs arrs blks with hs | ⟨hs, hS⟩
  · refine (ontimelaw21_small.calls 100 nm regs A c arrs A3 c3 blks 0 w1 (Kd.C_below HR.out HB1.out) hcp (Kd.C_below HR3.out HB1.out) hcp3 hs).mono ?_
    rintro e w2 ⟨rfl, hb2⟩
    have HB2 := Aside0.mk (below_step HB1.out hb2); clear hb2
    go_wp2
    go_ret
    exact ⟨rfl, HB2.out⟩
  refine (ontimelaw21_small.calls 100 nm regs A c arrs A3 c3 blks 1 w1 (Kd.C_below HR.out HB1.out) hcp (Kd.C_below HR3.out HB1.out) hcp3 hs).mono ?_
  rintro e w2 ⟨rfl, hb2⟩
  have HS := Aside0.mk hS
  have HO2 := Aside0.mk (blk_below HO1.out hb2)
  have HB2 := Aside0.mk (below_step HB1.out hb2); clear hb2 hS hs
  clear o0 o1 o2 o3
  have hlF2 := blk_lt HO2.out
  have hbk : blks.length ≤ 20 := HS.out.1
  go_wp2_with fail
  go_loopw [3, 4] (fun v i wr => ∃ k : Int, i = .int .i64 k ∧ 0 ≤ k ∧ k ≤ blks.length ∧ Aside0 (ErrSt w2 wr v ((blks.take k.toNat).foldl mentB []))) (fun _ i wr => blks.length - (intOf i).toNat)
  case atStart => exact ⟨0, rfl, Int.le_refl _, by omega, ⟨Kd.R_nil _ _ _ _ _, Below.refl _ _, ⟨by simp, by simp⟩⟩⟩
  case round =>
    obtain ⟨k, rfl, hk0, hk, HE⟩ := hrel
    have HOr := Aside0.mk (blk_below HO2.out HE.out.below)
    obtain ⟨o0, o1, o2, o3⟩ := blk4 HOr.out
    have hlFr := blk_lt HOr.out
    obtain ⟨acc0, hacc⟩ : ∃ a, (blks.take k.toNat).foldl mentB [] = a := ⟨_, rfl⟩
    rw [hacc] at HE
    have HAC := Aside0.mk hacc; clear hacc
    obtain ⟨Ax, cx, rfl⟩ := Kd.R_slice HE.out.row
    by_cases hlt : k < blks.length
    · go_wp2_with fail
      have HACB := Aside0.mk (show ∀ q : Nat, k.toNat = q → (blks.take (q + 1)).foldl mentB [] = (rd_T49 blks k).f0.foldl mentI acc0 from fun q hq => by
        subst hq
        rw [List.take_add_one, List.getElem?_eq_getElem (by omega), ← rd_Blk_get _ _ (by omega), show ((k.toNat : Nat) : Int) = k by omega]
        simp only [Option.toList_some, List.foldl_append, List.foldl_cons, List.foldl_nil, HAC.out]
        rfl)
      have HMB := Aside0.mk (show rd_T49 blks k ∈ blks from by
        rw [show k = ((k.toNat : Nat) : Int) by omega, rd_Blk_get _ _ (by omega)]
        exact List.getElem_mem _)
      obtain ⟨b, hb⟩ : ∃ b, rd_T49 blks k = b := ⟨_, rfl⟩
      have HEB := Aside0.mk hb
      have HL0 := Aside0.mk (show acc0.length + b.f0.length ≤ 700 by
        have h1 : acc0.length ≤ sumTo blks k.toNat := by
          rw [← HAC.out]
          exact ment_take_len blks _ (by omega)
        have h2 := sumTo_le blks (show k.toNat ≤ blks.length by omega)
        have h3 := sumTo_eq blks
        have h4 := HS.out.2.2.2.1
        have h5 := HS.out.2.2.2.2 _ HMB.out
        rw [hb] at h5
        omega)
      have hbl : b.f0.length ≤ 700 := by have := HL0.out; omega
      go_loopw [3, 5] (fun v i wr5 => ∃ j : Int, i = .int .i64 j ∧ 0 ≤ j ∧ j ≤ b.f0.length ∧ Aside0 (ErrSt w2 wr5 v ((b.f0.take j.toNat).foldl mentI acc0))) (fun _ i wr5 => b.f0.length - (intOf i).toNat)
      case atStart => exact ⟨0, rfl, Int.le_refl _, by omega, HE⟩
      case round =>
        obtain ⟨j, rfl, hj0, hj, HE5⟩ := hrel
        obtain ⟨acc, hacc⟩ : ∃ a, (b.f0.take j.toNat).foldl mentI acc0 = a := ⟨_, rfl⟩
        rw [hacc] at HE5
        have HAC5 := Aside0.mk hacc; clear hacc
        obtain ⟨Ay, cy, rfl⟩ := Kd.R_slice HE5.out.row
        have HO5 := Aside0.mk (blk_below HO2.out HE5.out.below)
        clear o0 o1 o2 o3
        obtain ⟨o0, o1, o2, o3⟩ := blk4 HO5.out
        have hlF5 := blk_lt HO5.out
        have HB5 := Aside0.mk (below_step HB2.out HE5.out.below)
        obtain ⟨ad, Ai, ci, hA, x0, x1, x2, x3, x4, hci, hCi⟩ := at_T49 HR3.out k hk0 hlt
        cases hA
        rw [hb] at x0 x1 x2 x3 x4 hci hCi
        replace x0 := (HB5.out.cell (World.block_lt_of_cell? w _ x0)).trans x0
        have p110 := eq_true hk0
        have q110 := eq_true hlt
        by_cases hltj : j < b.f0.length
        · obtain ⟨ai, hA2, y0, y1, y2, y3, y4, y5⟩ := at_T51 hCi j hj0 hltj
          cases hA2
          replace y0 := (HB5.out.cell (World.block_lt_of_cell? w _ y0)).trans y0
          replace y1 := (HB5.out.cell (World.block_lt_of_cell? w _ y1)).trans y1
          replace y2 := (HB5.out.cell (World.block_lt_of_cell? w _ y2)).trans y2
          replace y3 := (HB5.out.cell (World.block_lt_of_cell? w _ y3)).trans y3
          replace y4 := (HB5.out.cell (World.block_lt_of_cell? w _ y4)).trans y4
          replace y5 := (HB5.out.cell (World.block_lt_of_cell? w _ y5)).trans y5
          have p111 := eq_true hj0
          have q111 := eq_true hltj
          obtain ⟨i, hi⟩ : ∃ i, rd_T51 b.f0 j = i := ⟨_, rfl⟩
          rw [hi] at y0 y1 y2 y3 y4 y5
          have HI := Aside0.mk hi
          clear hi x1 x2 x3 x4 hci hCi
          have HAL := Aside0.mk (show acc.length ≤ 700 by
            have h1 := mentB_len (b.f0.take j.toNat) acc0
            rw [HAC5.out, List.length_take] at h1
            have := HL0.out
            omega)
          have HST := Aside0.mk (show (b.f0.take (j + 1).toNat).foldl mentI acc0 = mentI acc i from by
            rw [show (j + 1).toNat = j.toNat + 1 from by omega, List.take_add_one, List.getElem?_eq_getElem (by omega)]
            simp only [Option.toList_some, List.foldl_append, List.foldl_cons, List.foldl_nil]
            rw [HAC5.out, ← HI.out]
            simp only [rd_T51, List.getD_eq_getElem?_getD]
            rw [List.getElem?_eq_getElem (by omega)]
            rfl)
          obtain ⟨_, hcacc, hCacc⟩ := Kd.R_reads' HE5.out.row
          obtain ⟨r, hr, hIX⟩ := index_any Ay cy acc i.f5 (by have := HAL.out; omega) hcacc
          have HIX := Aside0.mk hIX; have HCA := Aside0.mk hCacc
          have HRR := Aside0.mk hr
          clear hIX hCacc hr
          by_cases hsh : isShr i.f0 = true
          · have hop : i.f0 = 6 ∨ i.f0 = 7 ∨ i.f0 = 11 ∨ i.f0 = 12 := by simpa [isShr, or_assoc] using hsh
            have HSH := Aside0.mk hsh; clear hsh
            obtain ⟨y0v, hy0v⟩ : ∃ v, (.int .u8 i.f0 : Value) = v := ⟨_, rfl⟩
            rcases hop with hop | hop | hop | hop
            all_goals
              rw [hop] at y0 hy0v
              subst hy0v
              go_wp2_with fail
              refine (HIX.out _ (Kd.C_below HCA.out (below_alloc (Below.refl _ _) _))).mono ?_
              rintro e w6 ⟨rfl, hb6⟩
              have HE6 := Aside0.mk (HE5.out.step (below_step (below_alloc (Below.refl _ _) _) hb6))
              have HXB := Aside0.mk (blk_below (blk_new wr (.cells #[_, .int .i64 i.f1, .int .i64 i.f2, .int .i64 i.f3, .int .i64 i.f4, .string i.f5] 51)) hb6)
              obtain ⟨v0, v1, v2, v3, v4, v5⟩ := blk6 HXB.out
              have hlX := blk_lt HXB.out
              clear o0 o1 o2 o3 x0 y0 y1 y2 y3 y4 y5 hb6
              rcases HRR.out with ⟨hn, h0⟩ | ⟨hn, hr1⟩
              · have hd := decide_eq_false (show ¬ r < 0 by omega)
                go_wp2
                go_roundw
                case rel => exact ⟨j + 1, rfl, by omega, by omega, ⟨by rw [HST.out, mentI_name HE6.out.ok.one, if_pos HSH.out, if_pos hn]; exact HE6.out⟩⟩
                case measure => simp [intOf]; omega
              · have hd := decide_eq_true (show r < 0 by omega)
                have HAL1 := Aside0.mk (show acc.length + 1 ≤ 1000 by have := HAL.out; omega)
                go_wp2_with (at_builtin; refine Kd.R_append k44 (w0 := w2) w2.heap.size rfl (.tmp 66) (.tmp 70) 22 44 _ 24 rfl Try.underlying22 infoArr rfl (by decide) (by decide) (.slice Ay acc.length cy) acc ⟨i.f5, 1⟩ [.string i.f5, .int .i64 1] (fun _ => True) (fun _ => False) rfl rfl ?bP (fun _ hk => hk.elim) ?bF ?bO ?bB ?bS ?bL ?_; (case bP => exact k44_mkM _ _ _ ⟨i.f5, 1⟩); (case bF => (intro b hb; trivial)); (case bO => exact HE6.out.row); (case bB => exact HE6.out.below); (case bS => exact HE6.out.below.size); (case bL => (have := HAL1.out; omega)); intro v8 w8 hR8 hB8 hg8 hat8; have HR8 := Aside0.mk hR8; have HB8 := Aside0.mk hB8; clear hR8 hB8 hg8 hat8)
                go_roundw
                case rel => exact ⟨j + 1, rfl, by omega, by omega, ⟨by
                  have hok := HE6.out.ok.step i
                  rw [HST.out]
                  rw [mentI_name HE6.out.ok.one, if_pos HSH.out, if_neg (by rw [hn]; decide)] at hok ⊢
                  exact ⟨HR8.out, HB8.out, hok⟩⟩⟩
                case measure => simp [intOf]; omega
          · have HSH : Aside0 (mentI acc i = acc) := ⟨by unfold mentI; rw [if_neg hsh]⟩
            have hne : (i.f0 ≠ 6 ∧ i.f0 ≠ 7) ∧ i.f0 ≠ 11 ∧ i.f0 ≠ 12 := by
              simp only [isShr, Bool.or_eq_true, beq_iff_eq, not_or] at hsh
              omega
            have e6 := beq_eq_false_iff_ne.2 hne.1.1
            have e7 := beq_eq_false_iff_ne.2 hne.1.2
            have e11 := beq_eq_false_iff_ne.2 hne.2.1
            have e12 := beq_eq_false_iff_ne.2 hne.2.2
            clear hne hsh
            go_wp2_with fail
            go_roundw
            case rel => exact ⟨j + 1, rfl, by omega, by omega, ⟨by rw [HST.out, HSH.out]; exact HE5.out.step (below_alloc (Below.refl _ _) _)⟩⟩
            case measure => simp [intOf]; omega
        · have q111 := eq_false hltj
          have HFIN := Aside0.mk (show acc = (blks.take (k + 1).toNat).foldl mentB [] from by
            rw [show (k + 1).toNat = k.toNat + 1 from by omega, HACB.out k.toNat rfl, HEB.out, ← HAC5.out, List.take_of_length_le (by omega)])
          go_wp2_with fail
          go_roundw
          case rel => exact ⟨k + 1, rfl, by omega, by omega, ⟨by rw [← HFIN.out]; exact HE5.out⟩⟩
          case measure => simp [intOf]; omega
    · have q110 := eq_false hlt
      have HML := Aside0.mk (show acc0 = mentL blks from by rw [← HAC.out, List.take_of_length_le (by omega)]; rfl)
      obtain ⟨_, hcacc, hCacc⟩ := Kd.R_reads' HE.out.row
      have HCA := Aside0.mk hCacc
      have HBr := Aside0.mk (below_step HB2.out HE.out.below)
      clear hCacc
      go_wp2_with fail
      refine (task_both nm regs A c arrs A3 c3 blks wr (Kd.C_below HR.out HBr.out) hcp (Kd.C_below HR3.out HBr.out) hcp3 HS.out HNS.out HNB.out).mono ?_
      have HAL := Aside0.mk (show acc0.length ≤ 9223372036854775806 by
        rw [← HAC.out]
        have h1 := ment_take_len blks k.toNat (by omega)
        have h2 := sumTo_le blks (show k.toNat ≤ blks.length by omega)
        have h3 := sumTo_eq blks
        have h4 := HS.out.2.2.2.1
        omega)
      rintro e w3 (⟨hm, rfl, hb3⟩ | ⟨hm, st, places, slots, vc, vr, _, hA, rfl, hC, hRf, hb3, hG, hl, hl2, hV⟩)
      · have HSH := Aside0.mk (show irOk regs arrs blks acc0 = false by rw [HML.out]; exact hm)
        have HO3 := Aside0.mk (blk_below HOr.out hb3)
        have HC3 := Aside0.mk (Kd.C_below HCA.out hb3)
        have HB3 := Aside0.mk (below_step HBr.out hb3); clear hb3 hm
        clear o0 o1 o2 o3
        obtain ⟨o0, o1, o2, o3⟩ := blk4 HO3.out
        have hlF3 := blk_lt HO3.out
        unfold zeroObj
        have HON := Aside0.mk (blk_new w3 (.cells #[.string ⟨#[]⟩, .slice none 0 0, .int .i64 0, .slice none 0 0] 31))
        have HB3a := Aside0.mk (below_alloc HB3.out (.cells #[.string ⟨#[]⟩, .slice none 0 0, .int .i64 0, .slice none 0 0] 31))
        have HC3a := Aside0.mk (Kd.C_below HC3.out (below_alloc (Below.refl _ _) (.cells #[.string ⟨#[]⟩, .slice none 0 0, .int .i64 0, .slice none 0 0] 31)))
        go_wp2_with fail
        refine (irValid_any nm regs A c arrs A3 c3 blks Ax cx acc0 _ (Kd.C_below HR.out HB3a.out) hcp (Kd.C_below HR3.out HB3a.out) hcp3 (by have := HS.out.1; omega) (size_wide HS.out.2.2.2.2) HC3a.out hcacc HAL.out).mono ?_
        rw [HSH.out]
        rintro e w4 ⟨rfl, hb4⟩
        have HON4 := Aside0.mk (blk_below HON.out hb4)
        have HB4 := Aside0.mk (below_step HB3a.out hb4); clear hb4 o0 o1 o2 o3
        obtain ⟨z0, z1, z2, z3⟩ := blk4 HON4.out
        have hlz := blk_lt HON4.out
        go_wp2
        go_ret
        exact ⟨rfl, HB4.out⟩
      · obtain ⟨Ac, cc, rfl⟩ := Kd.R_slice hC
        obtain ⟨Ar, cr, rfl⟩ := Kd.R_slice hRf
        generalize (patchAll st).length = n1 at *
        generalize st.refs.length = n2 at *
        generalize layA arrs arrs.length + slots = d at *
        have HSH := Aside0.mk (show irOk regs arrs blks acc0 = true by rw [HML.out]; exact hm)
        have HO3 := Aside0.mk (blk_below HOr.out hb3)
        have HC3 := Aside0.mk (Kd.C_below HCA.out hb3)
        have HB3 := Aside0.mk (below_step HBr.out hb3); clear hb3 hm hC hRf hG hV hA
        clear o0 o1 o2 o3
        obtain ⟨o0, o1, o2, o3⟩ := blk4 HO3.out
        have hlF3 := blk_lt HO3.out
        have HB3a := Aside0.mk (below_alloc HB3.out (.cells #[.string nm, .slice Ac n1 cc, .int .i64 d, .slice Ar n2 cr] 31))
        have HC3a := Aside0.mk (Kd.C_below HC3.out (below_alloc (Below.refl _ _) (.cells #[.string nm, .slice Ac n1 cc, .int .i64 d, .slice Ar n2 cr] 31)))
        go_wp2_with fail
        refine (irValid_any nm regs A c arrs A3 c3 blks Ax cx acc0 _ (Kd.C_below HR.out HB3a.out) hcp (Kd.C_below HR3.out HB3a.out) hcp3 (by have := HS.out.1; omega) (size_wide HS.out.2.2.2.2) HC3a.out hcacc HAL.out).mono ?_
        rw [HSH.out]
        rintro e w4 ⟨rfl, hb4⟩
        have HB4 := Aside0.mk (below_step HB3a.out hb4); clear hb4 o0 o1 o2 o3
        go_wp2
        go_ret
        exact ⟨rfl, HB4.out⟩
end Go.Proofs.Ytadaopfcgpfiiaa
