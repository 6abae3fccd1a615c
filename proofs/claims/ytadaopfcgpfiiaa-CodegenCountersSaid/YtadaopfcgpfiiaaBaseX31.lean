/- Lemmas: what the theorem of the claim's last text needs, joined by a program out of the seat's texts H5. -/
import Derived.Test.YtadaopfcgpfiiaaBaseX30
namespace Go.Proofs.Ytadaopfcgpfiiaa
open Go.RowKit Go.Proofs.YtadaopfcgpfiiaaW.PrintWords Go.Proofs.YtadaopfcgpfiiaaW.PrintLast Go.Proofs.YtadaopfcgpfiiaaW.PrintMore PCg
set_option linter.unusedVariables false
set_option linter.unusedSimpArgs false
attribute [local go_sem] Oper.semAt_some
set_option maxRecDepth 100000 in
set_option maxHeartbeats 1000000 in
theorem solve_any (nm : ByteArray) (regs : Int) (A : Option Addr) (na c : Nat) (A3 : Option Addr) (c3 : Nat) (blks : List S49) (w : World)
    (hr3 : Kd.C k49 w A3 blks.length blks) (hcp3 : blks.length ≤ c3) (hn : blks.length ≤ 10000) (q2 : 0 ≤ regs) (q3 : regs ≤ 10000) (hwf : ∀ b ∈ blks, BlkWf regs blks.length b) (hlen : ∀ b ∈ blks, b.f0.length ≤ 1000000) :
    Calls Try.prog 92 #[.agg #[.string nm, .int .i64 regs, .slice A na c, .slice A3 blks.length c3]] w (SetsPost regs blks.length w) := by
  have HR3 := Aside0.mk hr3; have HWF := Aside0.mk hwf; have HLEN := Aside0.mk hlen
  clear hr3 hwf hlen
  have hu := Try.underlying51
  have hu2 := Try.underlying49
  have hu3 := Try.underlying25
  have HBF := Aside0.mk (blk_new w (.cells #[.string nm, .int .i64 regs, .slice A na c, .slice A3 blks.length c3] 25))
  have HB0 := Aside0.mk (below_alloc (Below.refl w.heap.size w) (.cells #[.string nm, .int .i64 regs, .slice A na c, .slice A3 blks.length c3] 25))
  have hmk := make_sets blks.length (by omega)
  have hmk2 := make_intss blks.length (by omega)
  refine (callsIn_wide (n := 5)).1 (callsIn_of_wp_marks Try.func92 rfl trivial (wpIn_wide.2 ?_) rfl)
  simp only [Try.ntmps92, List.size_toArray, List.length_cons, List.length_nil, Nat.reduceAdd, Nat.reduceSub, Array.replicate_succ, Array.replicate_zero, List.push_toArray, List.append_toArray, List.nil_append, List.cons_append]
  go_upto_region 2 with (fail)
  obtain ⟨w1, hw1⟩ : ∃ w1, w.alloc (.cells #[.string nm, .int .i64 regs, .slice A na c, .slice A3 blks.length c3] 25) = w1 := ⟨_, rfl⟩
  have HW1 : Aside0 (Below w.heap.size w w1) := ⟨by rw [← hw1]; exact HB0.out⟩
  go_cut [2, 3] from 19 to 22 (fun s2 s3 wx => TwoMade blks.length w1 s2 s3 wx)
  case first =>
    rw [hw1]
    go_region
    all_goals
      go_wp2_with fail
      go_meet
      first
      | exact ⟨w1.heap.size, w1.heap.size + 1, rfl, rfl, (rowAt_made w1 _ _ _).step (fun _ h => ((below_drew (below_alloc (Below.refl _ _) _)).block _ (blk_lt h))), by have := rowAt_made (w1.alloc (.cells (madeCells #[.slice none 0 0] blks.length) 159)) blks.length 159 (.slice none 0 0); rw [World.size_alloc] at this; exact this, by omega, Nat.le_refl _, by omega, below_drew (below_alloc (below_alloc (Below.refl _ _) _) _)⟩
      | exact ⟨w1.heap.size + 1, w1.heap.size, rfl, rfl, by have := rowAt_made (w1.alloc (.cells (madeCells #[.slice none 0 0] blks.length) 159)) blks.length 159 (.slice none 0 0); rw [World.size_alloc] at this; exact this, (rowAt_made w1 _ _ _).step (fun _ h => ((below_drew (below_alloc (Below.refl _ _) _)).block _ (blk_lt h))), by omega, by omega, Nat.le_refl _, below_drew (below_alloc (below_alloc (Below.refl _ _) _) _)⟩
  case rest =>
    obtain ⟨gi, go, rfl, rfl, hri, hro, hne, hgi, hgo, hb1⟩ := hcut
    have hlg : gi < wc.heap.size := hri.lt
    have hlo : go < wc.heap.size := hro.lt
    have HSt : Aside0 (SolveAt w1 (wc.alloc (.cells (madeCells #[.slice none 0 0] blks.length) 37)) gi go wc.heap.size blks.length (.slice none 0 0) (Ini regs blks.length 0)) := ⟨by
      refine ⟨fun k => if k = gi then 4 else if k = go then 8 else if k = wc.heap.size then 12 else 16, fun _ => .slice none 0 0, fun _ => .slice none 0 0, fun _ => .slice none 0 0, fun _ => [], fun _ => [], fun _ => [], [], ⟨below_alloc hb1 _, fun _ => ?_, fun _ => ?_, fun _ => rowAt_made wc _ _ _, fun i hi _ => Kd.R_nil _ _ _ _ _, fun i hi _ => Kd.R_nil _ _ _ _ _, fun i hi _ => Kd.R_nil _ _ _ _ _, fun _ => Kd.R_nil _ _ _ _ _, ⟨by simp, hgi, by simp; omega⟩, ⟨by simp [Ne.symm hne], hgo, by simp; omega⟩, ⟨?_, hb1.size, by simp⟩⟩, ⟨fun i hi => by omega, fun i hi => by simp, rfl, by simp⟩⟩
      · exact hri.step (fun _ h => (below_alloc (Below.refl _ _) _).block _ (blk_lt h))
      · exact hro.step (fun _ h => (below_alloc (Below.refl _ _) _).block _ (blk_lt h))
      · rw [if_neg (by omega), if_neg (by omega), if_pos rfl]⟩
    clear hri hro hb1
    go_wp2_with fail
    obtain ⟨gp, hgp⟩ : ∃ gp, wc.heap.size = gp := ⟨_, rfl⟩
    rw [hgp] at HSt
    go_loopw [6, 26] (fun v i wr => ∃ k : Int, i = .int .i64 k ∧ 0 ≤ k ∧ k ≤ blks.length ∧ Aside0 (SolveAt w1 wr gi go gp blks.length v (Ini regs blks.length k))) (fun _ i wr => blks.length - (intOf i).toNat)
    case atStart => exact ⟨0, rfl, Int.le_refl _, by omega, HSt⟩
    case round =>
      clear HSt
      obtain ⟨k, rfl, hk0, hk, ⟨lab, vi, vo, vp, ins, outs, prevs, work, hS, hP⟩⟩ := hrel
      have HS := Aside0.mk hS; have HP := Aside0.mk hP
      obtain ⟨Aw, cw, hvw⟩ := Kd.R_slice (hS.lk (fun h => h))
      subst hvw
      clear hS hP
      by_cases hlt : k < blks.length
      · have p1 := eq_true hk0
        have q1 := eq_true hlt
        have HBr := Aside0.mk (blk_below (by rw [hw1] at HBF; exact HBF.out) HS.out.below)
        obtain ⟨f0, f1, f2, f3⟩ := blk4 HBr.out
        obtain ⟨kn, hkn⟩ : ∃ kn : Nat, k.toNat = kn := ⟨_, rfl⟩
        have hkl : kn < blks.length := by omega
        have ci := (HS.out.ri (fun h => h)).cell hkl
        have fi := (HS.out.ri (fun h => h)).free kn
        have co := (HS.out.ro (fun h => h)).cell hkl
        have fo := (HS.out.ro (fun h => h)).free kn
        have hg1 := HS.out.gi.2.2
        have hg2 := HS.out.go.2.2
        have hg3 := blk_lt HBr.out
        have hkk : (kn : Int) = k := by omega
        go_upto_region 8 with (fail)
        have hne1 : w.heap.size ≠ gi := fun e => by have := HS.out.gi.2.1; rw [← hw1] at this; simp at this; omega
        have hne2 : w.heap.size ≠ go := fun e => by have := HS.out.go.2.1; rw [← hw1] at this; simp at this; omega
        go_region_held3 (fun W => W.cell? ⟨w.heap.size, 1, none⟩ = some (.int .i64 regs))
          (first
            | go_keep
            | exact pw_cell_below hb4 (by assumption)
            | exact pw_cell_below hb3 (by assumption)
            | exact cell_setFar (by assumption) hne1
            | exact cell_setFar (by assumption) hne2)
          (first
            | (go_at_call 66
               have hx := ci3
               with_reducible refine (newSet_any q2 q3 _).mono ?_
               rintro e w4 ⟨v4, rfl, hR4, hb4⟩
               obtain ⟨Av4, cv4, hv4⟩ := Kd.R_slice hR4
               subst hv4
               have ci4 := pw_cell_below hb4 ci3
               have co4 := pw_cell_below hb4 co3
               have fi4 := (hb4.frozen (p := ⟨gi, kn, none⟩) (World.block_lt_of_cell? _ _ ci3)).trans fi3
               have fo4 := (hb4.frozen (p := ⟨go, kn, none⟩) (World.block_lt_of_cell? _ _ co3)).trans fo3)
            | (go_at_call 66
               with_reducible refine (newSet_any q2 q3 _).mono ?_
               rintro e w3 ⟨v3, rfl, hR3, hb3⟩
               obtain ⟨Av3, cv3, hv3⟩ := Kd.R_slice hR3
               subst hv3
               have ci3 := pw_cell_below hb3 ci
               have co3 := pw_cell_below hb3 co
               have fi3 := (hb3.frozen (p := ⟨gi, kn, none⟩) hg1).trans fi
               have fo3 := (hb3.frozen (p := ⟨go, kn, none⟩) hg2).trans fo))
        obtain ⟨lab2, hS2⟩ := HS.out.two hkl (below_drew (Below.refl _ wr)) hb3 hb4 hR3 hR4
        obtain ⟨W5, hW5⟩ : ∃ W5, (w4.setCell ⟨gi, kn, none⟩ (.slice Av3 (zerosL regs).length cv3)).setCell ⟨go, kn, none⟩ (.slice Av4 (zerosL regs).length cv4) = W5 := ⟨_, rfl⟩
        rw [hW5] at hS2
        have HS2 := Aside0.mk hS2
        clear hS2 hb3 hb4 hR3 hR4 ci3 co3 fi3 fo3 ci4 co4 fi4 fo4 ci co fi fo f0 f1 f2 f3
        have HKK := Aside0.mk hkk; have HKN := Aside0.mk hkn; clear hkk hkn
        have HB5 := Aside0.mk (blk_below (by rw [hw1] at HBF; exact HBF.out) HS2.out.below)
        obtain ⟨f0, f1, f2, f3⟩ := blk4 HB5.out
        have HW5 : Aside0 (Below w.heap.size w W5) := ⟨below_then HW1.out HW1.out.size HS2.out.below⟩
        obtain ⟨ad, A5, c5, hA, h0, h1, h2, h3, h4, hl5, hr5⟩ := at_T49 HR3.out k hk0 hlt
        cases hA
        have HBW := Aside0.mk (HWF.out _ (mem_rd (z := z49) hk0 hlt))
        replace h0 := (HW5.out.cell (World.block_lt_of_cell? w _ h0)).trans h0
        replace h1 := (HW5.out.cell (World.block_lt_of_cell? w _ h1)).trans h1
        replace h2 := (HW5.out.cell (World.block_lt_of_cell? w _ h2)).trans h2
        replace h3 := (HW5.out.cell (World.block_lt_of_cell? w _ h3)).trans h3
        replace h4 := (HW5.out.cell (World.block_lt_of_cell? w _ h4)).trans h4
        have HR5 := Aside0.mk hr5; clear hr5
        change Aside0 (BlkWf regs blks.length (rd_T49 blks k)) at HBW
        go_wp2_with fail
        refine (succ_any A5 c5 (rd_T49 blks k) _ (Kd.C_below HR5.out HW5.out) hl5).mono ?_
        rintro e w6 ⟨v6, rfl, hR6, hb6⟩
        obtain ⟨A7, c7, hv7, hl7, hC7⟩ := Kd.R_reads hR6
        subst hv7
        have HR7 := Aside0.mk (R_fresh (lab := lab2) (L := 20) (W := W5) hR6 HS2.out.below.size)
        have HS6 := Aside0.mk ((HS2.out.fresh 20).after hb6)
        have HSL := Aside0.mk (succL_len (rd_T49 blks k))
        have hsl := HSL.out
        clear hR6 hC7 hb6 h0 h1 h2 h3 h4 f0 f1 f2 f3
        go_wp2_with fail
        go_loopw [48] (fun i wr => ∃ k2 : Int, i = .int .i64 k2 ∧ 0 ≤ k2 ∧ k2 ≤ (succL (rd_T49 blks k)).length ∧ Aside0 (∃ lab vp prevs, SolveEx (fun _ => False) w1 wr gi go gp blks.length lab (upd vi kn (.slice Av3 (zerosL regs).length cv3)) (upd vo kn (.slice Av4 (zerosL regs).length cv4)) vp (upd ins kn (zerosL regs)) (upd outs kn (zerosL regs)) prevs (.slice Aw work.length cw) work ∧
            (∀ i, i < blks.length → ((prevs i).length : Int) ≤ 2 * k + k2 ∧ ∀ x ∈ prevs i, 0 ≤ x ∧ x < blks.length) ∧ kI.R 3 wr w1.heap.size (fun b => lab b = 20) (.slice A7 (succL (rd_T49 blks k)).length c7) (succL (rd_T49 blks k)))) (fun i wr => (succL (rd_T49 blks k)).length - (intOf i).toNat)
        case atStart => exact ⟨0, rfl, Int.le_refl _, by omega, ⟨_, vp, prevs, HS6.out, fun i hi => by have := HP.out.prev i hi; exact ⟨by omega, this.2⟩, HR7.out⟩⟩
        case round =>
          obtain ⟨k2, rfl, hk20, hk2, ⟨lab3, vp3, prevs3, hS3, hpv, hR7⟩⟩ := hrel
          have HS3 := Aside0.mk hS3; have HPV := Aside0.mk hpv; clear HR7; have HR7 := Aside0.mk hR7
          clear hS3 hpv hR7
          by_cases hlt2 : k2 < (succL (rd_T49 blks k)).length
          · obtain ⟨ad7, hA7, e0⟩ := Kd.at_int (Kd.R_reads' HR7.out).2.2 k2 hk20 hlt2
            cases hA7
            have hr := HBW.out.succ (rd (succL (rd_T49 blks k)) k2) (mem_rd hk20 hlt2)
            obtain ⟨t, ht⟩ : ∃ t, rd (succL (rd_T49 blks k)) k2 = t := ⟨_, rfl⟩
            rw [ht] at e0 hr
            obtain ⟨r1, r2⟩ := hr
            clear ht
            have p2 := eq_true hk20
            have q2' := eq_true hlt2
            have p3 := eq_true r1
            have q3' := eq_true r2
            obtain ⟨tn, htn⟩ : ∃ tn : Nat, t.toNat = tn := ⟨_, rfl⟩
            have htl : tn < blks.length := by omega
            have cp := (HS3.out.rp (fun h => h)).cell htl
            have fp := (HS3.out.rp (fun h => h)).free tn
            obtain ⟨Ap, cpp, hvp⟩ := Kd.R_slice (HS3.out.lp tn htl (fun h => h))
            rw [hvp] at cp
            have HVP := Aside0.mk hvp; clear hvp
            have HSF := Aside0.mk (HS3.out.fresh (4 * tn + 3))
            have HRF := Aside0.mk (R_relab (M := 4 * tn + 3) HR7.out rfl)
            have hpl := HPV.out tn htl
            have HPT : Aside0 (kI.R 3 wr w1.heap.size (fun b => labN lab3 wr.heap.size (4 * tn + 3) b = 4 * tn + 3) (.slice Ap (prevs3 tn).length cpp) (prevs3 tn)) := ⟨by have := HSF.out.lp tn htl (fun h => h); rw [HVP.out] at this; exact this⟩
            go_wp2_with (at_builtin; refine Kd.R_append kI (w0 := w1) w1.heap.size rfl (.tmp 57) (.tmp 59) 37 3 (.int .i64 0) 8 rfl Try.underlying37 info3 rfl (by decide) (by decide) (.slice Ap (prevs3 tn).length cpp) (prevs3 tn) k [.int .i64 k] (fun b => labN lab3 wr.heap.size (4 * tn + 3) b = 4 * tn + 3) (fun _ => False) rfl rfl ?aP (fun _ hk => hk.elim) ?aF ?aO ?aB ?aS ?aL ?_; (case aP => exact rfl); (case aF => (intro b hb; exact labN_ge hb)); (case aO => exact HPT.out); (case aB => exact HS3.out.below); (case aS => exact HS3.out.below.size); (case aL => omega); intro v8 w8 hR8 hB8 hg8 hat8; have HS8 := Aside0.mk (HSF.out.grown (L := 4 * tn + 3) hg8 (fun b hb => ⟨HPT.out.1 b hb, Kd.R_base HPT.out b hb⟩)); have HR9 := Aside0.mk (R_keep HRF.out (w1 := w8) (fun q _ _ hc ho => hg8.block q (blk_lt hc) (fun e => by have := HPT.out.1 q e.symm; omega))); have HPT8 := Aside0.mk hR8; clear hR8 hB8 hg8 hat8 cp fp; have cp := (HS8.out.rp (fun h => h.elim (fun h => h) (by omega))).cell htl; have fp := (HS8.out.rp (fun h => h.elim (fun h => h) (by omega))).free tn; obtain ⟨A8, c8, hv8⟩ := Kd.R_slice HPT8.out; rw [List.length_append, List.length_singleton] at hv8; subst hv8)
            have HSN := Aside0.mk (HS8.out.putP htl (fun h => h) HPT8.out)
            have HRN := Aside0.mk (R_keep HR9.out (w1 := w8.setCell ⟨gp, tn, none⟩ (.slice A8 ((prevs3 tn).length + 1) c8)) (fun q _ _ hc ho => Below.heap_setCell _ _ _ q (fun e => by rw [e, HS8.out.gp.1] at ho; omega)))
            go_roundw
            case rel => exact ⟨k2 + 1, rfl, by omega, by omega, ⟨_, _, _, HSN.out, iniP HPV.out htl hk0 (by have := HKK.out; omega), HRN.out⟩⟩
            case measure => simp [intOf]; omega
          · have HWK := Aside0.mk (HS3.out.fresh 0)
            have HWL := Aside0.mk HP.out.wlen
            have HLK : Aside0 (kI.R 3 wr w1.heap.size (fun b => labN lab3 wr.heap.size 0 b = 0) (.slice Aw work.length cw) work) := ⟨HWK.out.lk (fun h => h)⟩
            go_wp2_with (at_builtin; refine Kd.R_append kI (w0 := w1) w1.heap.size rfl (.tmp 63) (.tmp 65) 37 3 (.int .i64 0) 8 rfl Try.underlying37 info3 rfl (by decide) (by decide) (.slice Aw work.length cw) work k [.int .i64 k] (fun b => labN lab3 wr.heap.size 0 b = 0) (fun _ => False) rfl rfl ?bP (fun _ hk => hk.elim) ?bF ?bO ?bB ?bS ?bL ?_; (case bP => exact rfl); (case bF => (intro b hb; exact labN_ge hb)); (case bO => exact HLK.out); (case bB => exact HS3.out.below); (case bS => exact HS3.out.below.size); (case bL => (have := HWL.out; omega)); intro v8 w8 hR8 hB8 hg8 hat8; have HS8 := Aside0.mk ((HWK.out.grown (L := 0) hg8 (fun b hb => ⟨HLK.out.1 b hb, Kd.R_base HLK.out b hb⟩)).putK hR8); clear hR8 hB8 hg8 hat8)
            go_roundw
            case rel => exact ⟨_, _, _, _, ⟨k + 1, rfl, by omega, by omega, ⟨_, _, _, _, _, _, _, _, HS8.out, iniNext HP.out (by have := HKK.out; omega) hk0 hlt (fun i hi => by have := HPV.out i hi; exact ⟨by omega, this.2⟩)⟩⟩, rfl, rfl, rfl, rfl⟩
            case measure => simp [intOf]; omega
      · have hke : k = blks.length := by omega
        have HSI := Aside0.mk (sInv_start (blks := blks) q2 q3 (by rw [← hke]; exact HP.out))
        subst hke
        clear hlt
        go_wp2_with fail
        have HBD := Aside0.mk (solveM_bound hn q3 HSI.out HP.out.wlen)
        rw [hgp]
        refine wp_loop_ghost_k (fun m a' w' => ∃ (u6 u10 u12 u13 u15 u68 u69 u70 u71 u72 u73 u74 u75 u76 u77 u78 u79 u80 u81 u82 u83 u84 u85 u86 u87 u88 u89 u90 u91 u92 u93 u94 u95 u96 u97 u98 u99 u100 u101 u102 u103 u104 u105 u106 u107 u108 u109 u110 u111 u112 u113 u114 u115 u116 u117 u118 u119 u120 u121 u122 u123 u124 u125 u126 u127 u128 u129 u130 u131 u132 u133 u134 u135 u136 u137 u138 u139 u140 u141 : Value) (ds : List Deferred), SolveRel regs blks w1 w' gi go gp u6 ds m ∧ a' = { tmps := #[.agg #[.string nm, .int .i64 regs, .slice A na c, .slice A3 blks.length c3], .pointer (some ⟨w.heap.size, 0, none⟩), .slice (some ⟨gi, 0, none⟩) blks.length blks.length, .slice (some ⟨go, 0, none⟩) blks.length blks.length, .int .i64 (blks.length : Int), .slice (some ⟨gp, 0, none⟩) blks.length blks.length, u6, u7, undef, u9, u10, undef, u12, u13, undef, u15, .pointer (some ⟨w.heap.size, 3, none⟩), .slice A3 blks.length c3, .int .i64 (blks.length : Int), u19, u20, u21, u22, .int .i64 (blks.length : Int), .slice (some ⟨gp, 0, none⟩) blks.length blks.length, .int .i64 (blks.length : Int), .int .i64 (blks.length : Int), .bool false, u28, u29, u30, u31, u32, u33, u34, u35, u36, u37, u38, u39, u40, u41, u42, u43, u44, u45, u46, u47, u48, u49, u50, u51, u52, u53, u54, u55, u56, u57, u58, u59, u60, u61, u62, u63, u64, u65, u66, u67, u68, u69, u70, u71, u72, u73, u74, u75, u76, u77, u78, u79, u80, u81, u82, u83, u84, u85, u86, u87, u88, u89, u90, u91, u92, u93, u94, u95, u96, u97, u98, u99, u100, u101, u102, u103, u104, u105, u106, u107, u108, u109, u110, u111, u112, u113, u114, u115, u116, u117, u118, u119, u120, u121, u122, u123, u124, u125, u126, u127, u128, u129, u130, u131, u132, u133, u134, u135, u136, u137, u138, u139, u140, u141, undef, undef], defers := ds }) (solveM blks.length ins work) ?_ ?_
        · (repeat apply Exists.intro)
          refine ⟨?_, rfl⟩
          exact ⟨_, _, _, _, _, _, _, _, HS.out, marks_nil _ _ _, HSI.out, rfl, HBD.out⟩
        · intro gk a wr hinv
          obtain ⟨u6, hinv⟩ := hinv
          obtain ⟨u10, hinv⟩ := hinv
          obtain ⟨u12, hinv⟩ := hinv
          obtain ⟨u13, hinv⟩ := hinv
          obtain ⟨u15, hinv⟩ := hinv
          obtain ⟨u68, hinv⟩ := hinv
          obtain ⟨u69, hinv⟩ := hinv
          obtain ⟨u70, hinv⟩ := hinv
          obtain ⟨u71, hinv⟩ := hinv
          obtain ⟨u72, hinv⟩ := hinv
          obtain ⟨u73, hinv⟩ := hinv
          obtain ⟨u74, hinv⟩ := hinv
          obtain ⟨u75, hinv⟩ := hinv
          obtain ⟨u76, hinv⟩ := hinv
          obtain ⟨u77, hinv⟩ := hinv
          obtain ⟨u78, hinv⟩ := hinv
          obtain ⟨u79, hinv⟩ := hinv
          obtain ⟨u80, hinv⟩ := hinv
          obtain ⟨u81, hinv⟩ := hinv
          obtain ⟨u82, hinv⟩ := hinv
          obtain ⟨u83, hinv⟩ := hinv
          obtain ⟨u84, hinv⟩ := hinv
          obtain ⟨u85, hinv⟩ := hinv
          obtain ⟨u86, hinv⟩ := hinv
          obtain ⟨u87, hinv⟩ := hinv
          obtain ⟨u88, hinv⟩ := hinv
          obtain ⟨u89, hinv⟩ := hinv
          obtain ⟨u90, hinv⟩ := hinv
          obtain ⟨u91, hinv⟩ := hinv
          obtain ⟨u92, hinv⟩ := hinv
          obtain ⟨u93, hinv⟩ := hinv
          obtain ⟨u94, hinv⟩ := hinv
          obtain ⟨u95, hinv⟩ := hinv
          obtain ⟨u96, hinv⟩ := hinv
          obtain ⟨u97, hinv⟩ := hinv
          obtain ⟨u98, hinv⟩ := hinv
          obtain ⟨u99, hinv⟩ := hinv
          obtain ⟨u100, hinv⟩ := hinv
          obtain ⟨u101, hinv⟩ := hinv
          obtain ⟨u102, hinv⟩ := hinv
          obtain ⟨u103, hinv⟩ := hinv
          obtain ⟨u104, hinv⟩ := hinv
          obtain ⟨u105, hinv⟩ := hinv
          obtain ⟨u106, hinv⟩ := hinv
          obtain ⟨u107, hinv⟩ := hinv
          obtain ⟨u108, hinv⟩ := hinv
          obtain ⟨u109, hinv⟩ := hinv
          obtain ⟨u110, hinv⟩ := hinv
          obtain ⟨u111, hinv⟩ := hinv
          obtain ⟨u112, hinv⟩ := hinv
          obtain ⟨u113, hinv⟩ := hinv
          obtain ⟨u114, hinv⟩ := hinv
          obtain ⟨u115, hinv⟩ := hinv
          obtain ⟨u116, hinv⟩ := hinv
          obtain ⟨u117, hinv⟩ := hinv
          obtain ⟨u118, hinv⟩ := hinv
          obtain ⟨u119, hinv⟩ := hinv
          obtain ⟨u120, hinv⟩ := hinv
          obtain ⟨u121, hinv⟩ := hinv
          obtain ⟨u122, hinv⟩ := hinv
          obtain ⟨u123, hinv⟩ := hinv
          obtain ⟨u124, hinv⟩ := hinv
          obtain ⟨u125, hinv⟩ := hinv
          obtain ⟨u126, hinv⟩ := hinv
          obtain ⟨u127, hinv⟩ := hinv
          obtain ⟨u128, hinv⟩ := hinv
          obtain ⟨u129, hinv⟩ := hinv
          obtain ⟨u130, hinv⟩ := hinv
          obtain ⟨u131, hinv⟩ := hinv
          obtain ⟨u132, hinv⟩ := hinv
          obtain ⟨u133, hinv⟩ := hinv
          obtain ⟨u134, hinv⟩ := hinv
          obtain ⟨u135, hinv⟩ := hinv
          obtain ⟨u136, hinv⟩ := hinv
          obtain ⟨u137, hinv⟩ := hinv
          obtain ⟨u138, hinv⟩ := hinv
          obtain ⟨u139, hinv⟩ := hinv
          obtain ⟨u140, hinv⟩ := hinv
          obtain ⟨u141, hinv⟩ := hinv
          obtain ⟨ds, hinv⟩ := hinv
          obtain ⟨hrel, ha⟩ := hinv
          subst ha
          try dsimp only
          intro J K hJ hK
          obtain ⟨lab, vi, vo, vp, ins, outs, prevs, work, hS, hM, hI, hgk, hbd⟩ := hrel
          have HS := Aside0.mk hS; have HM := Aside0.mk hM; have HI := Aside0.mk hI; have HGK := Aside0.mk hgk; have HBD := Aside0.mk hbd
          clear hS hM hI hgk hbd
          rcases nil_or_snoc work with rfl | ⟨ws, x, rfl⟩
          · obtain ⟨Aw, cw, hvw⟩ := Kd.R_slice (HS.out.lk (fun h => h))
            subst hvw
            go_wp2
            obtain ⟨Ds, hds, hnd, hDs⟩ := HM.out
            subst hds
            refine leavesM (v := .tuple #[.slice (some ⟨gi, 0, none⟩) blks.length blks.length, .slice (some ⟨go, 0, none⟩) blks.length blks.length]) (fun w => by simp [results, Try.f92, go_sem]) Ds wr hnd (fun D hD => (hDs D hD).1) (fun w' ht => ?_)
            exact sets_done (HS.out.turned hDs ht) HI.out HW1.out
          · obtain ⟨Aw, cw, hvw⟩ := Kd.R_slice (HS.out.lk (fun h => h))
            rw [List.length_append, List.length_singleton] at hvw
            obtain ⟨m, hm⟩ : ∃ m, ws.length + 1 = m := ⟨_, rfl⟩
            rw [hm] at hvw
            subst hvw
            have hwl : ws.length ≤ 2010000000000 := by
              have h1 := HBD.out
              have h2 := HGK.out
              unfold solveM at h2
              simp only [List.length_append, List.length_singleton] at h2
              omega
            have hLK := HS.out.lk (fun h => h)
            obtain ⟨hml, hwc, hC⟩ := Kd.R_reads' hLK
            rw [← hml] at hC
            have hm2 : m ≤ 2010000000001 := by omega
            obtain ⟨j, hj⟩ : ∃ j : Int, (m : Int) - 1 = j := ⟨_, rfl⟩
            have hj0 : 0 ≤ j := by omega
            have hj1 : j < m := by omega
            obtain ⟨ad, hA, h0⟩ := Kd.at_int hC j hj0 hj1
            cases hA
            have hxr := HI.out.work x (by simp)
            have hxe : rd (ws ++ [x]) j = x := by rw [← hj, show (m : Int) - 1 = (ws.length : Int) by omega]; simp [rd]
            rw [hxe] at h0
            obtain ⟨hx0, hx1⟩ := hxr
            have hcut := fun W => cut_to (P := Try.prog) 37 3 .i64 Try.underlying37 infoINT_spec (some ad) m cw j hj0 (by omega) hwc W
            have hmp : 0 < m := by omega
            have pj := eq_true hj0
            have qj := eq_true hj1
            have HMW := Aside0.mk hm
            clear hm hml hwl
            clear hLK hC hxe
            have HSP := Aside0.mk (HS.out.popped (k := j.toNat) (by have := HMW.out; omega))
            have HIP := Aside0.mk (HI.out.pop (w2 := ws) (fun y hy => List.mem_append_left _ hy))
            have HBr := Aside0.mk (blk_below (by rw [hw1] at HBF; exact HBF.out) HS.out.below)
            obtain ⟨f0, f1, f2, f3⟩ := blk4 HBr.out
            have HWr : Aside0 (Below w.heap.size w wr) := ⟨below_then HW1.out HW1.out.size HS.out.below⟩
            obtain ⟨adb, A5, c5, hA, h1, h2, h3, h4, h5, hl5, hr5⟩ := at_T49 HR3.out x hx0 hx1
            cases hA
            have HBW : Aside0 (BlkWf regs blks.length (rd_T49 blks x)) := ⟨HWF.out _ (mem_rd (z := z49) hx0 hx1)⟩
            replace h1 := (HWr.out.cell (World.block_lt_of_cell? w _ h1)).trans h1
            replace h2 := (HWr.out.cell (World.block_lt_of_cell? w _ h2)).trans h2
            replace h3 := (HWr.out.cell (World.block_lt_of_cell? w _ h3)).trans h3
            replace h4 := (HWr.out.cell (World.block_lt_of_cell? w _ h4)).trans h4
            replace h5 := (HWr.out.cell (World.block_lt_of_cell? w _ h5)).trans h5
            have HR5 := Aside0.mk hr5; clear hr5
            have px := eq_true hx0
            have qx := eq_true hx1
            clear HS
            go_wp2_with fail
            refine (succ_any A5 c5 (rd_T49 blks x) _ (Kd.C_below HR5.out HWr.out) hl5).mono ?_
            rintro e w6 ⟨v6, rfl, hR6, hb6⟩
            obtain ⟨A7, c7, hv7⟩ := Kd.R_slice hR6
            subst hv7
            have HR7 := Aside0.mk (R_fresh (lab := lab) (L := 20) (W := wr) hR6 HSP.out.below.size)
            have HS6 := Aside0.mk ((HSP.out.fresh 20).after hb6)
            have HM6 := Aside0.mk ((HM.out.relab (lab' := labN lab wr.heap.size 20) (fun k hk hl => (labN_lt hk).trans hl)).below hb6)
            have HSL := Aside0.mk (succL_len (rd_T49 blks x))
            have hsl := HSL.out
            obtain ⟨xn, hxn⟩ : ∃ xn : Nat, x.toNat = xn := ⟨_, rfl⟩
            have hxl : xn < blks.length := by omega
            have HXN := Aside0.mk hxn
            clear hR6 hb6 h0 h1 h2 h3 h4 h5 f0 f1 f2 f3 hj hcut HSP HM HBr HWr hxn
            go_wp2_with fail
            go_loopw [89] (fun i wr => ∃ k2 : Int, i = .int .i64 k2 ∧ 0 ≤ k2 ∧ k2 ≤ (succL (rd_T49 blks x)).length ∧ Aside0 (∃ lab outs, SolveEx (fun _ => False) w1 wr gi go gp blks.length lab vi vo vp ins outs prevs (.slice (some ad) j.toNat cw) ws ∧ Marks ds lab w1.heap.size wr ∧ SInv regs ((regs + 63) / 64).toNat blks.length blks ins outs prevs ws ∧
                kI.R 3 wr w1.heap.size (fun b => lab b = 20) (.slice A7 (succL (rd_T49 blks x)).length c7) (succL (rd_T49 blks x)))) (fun i wr => (succL (rd_T49 blks x)).length - (intOf i).toNat)
            case atStart => exact ⟨0, rfl, Int.le_refl _, by omega, ⟨_, outs, HS6.out, HM6.out, HIP.out, HR7.out⟩⟩
            case round =>
              clear HS6 HM6 HIP HR7 HI
              obtain ⟨k2, rfl, hk20, hk2, ⟨lab2, outs2, hS, hM, hI, hR⟩⟩ := hrel
              have HS := Aside0.mk hS; have HM := Aside0.mk hM; have HI := Aside0.mk hI; have HR7 := Aside0.mk hR
              clear hS hM hI hR
              by_cases hlt2 : k2 < (succL (rd_T49 blks x)).length
              · obtain ⟨ad7, hA7, e0⟩ := Kd.at_int (Kd.R_reads' HR7.out).2.2 k2 hk20 hlt2
                cases hA7
                have hr := HBW.out.succ (rd (succL (rd_T49 blks x)) k2) (mem_rd hk20 hlt2)
                obtain ⟨t, ht⟩ : ∃ t, rd (succL (rd_T49 blks x)) k2 = t := ⟨_, rfl⟩
                rw [ht] at e0 hr
                obtain ⟨r1, r2⟩ := hr
                clear ht
                have p2 := eq_true hk20
                have q2' := eq_true hlt2
                have p3 := eq_true r1
                have q3' := eq_true r2
                obtain ⟨tn, htn⟩ : ∃ tn : Nat, t.toNat = tn := ⟨_, rfl⟩
                have htl : tn < blks.length := by omega
                have ci := (HS.out.ri (fun h => h)).cell htl
                have co := (HS.out.ro (fun h => h)).cell hxl
                obtain ⟨Ai, ci2, hvi⟩ := Kd.R_slice (HS.out.li tn htl (fun h => h))
                rw [hvi] at ci
                rw [← HXN.out] at co
                have HVI := Aside0.mk hvi; clear hvi
                go_wp2_with fail
                go_still_tail 8, (by kernel_rfl)
                change wpList _ _ _ _ _ wr.drew
                go_wp2_with fail
                have hbd : Below wr.heap.size wr wr.drew := below_drew (Below.refl _ _)
                have HSD := Aside0.mk (HS.out.after hbd)
                have hro := HSD.out.lo xn hxl (fun h => h)
                have hri := HSD.out.li tn htl (fun h => h)
                rw [HVI.out] at hri
                have hjf := join_f (outs2 xn) (ins tn) (by rw [HI.out.olen xn hxl]; omega) (by rw [HI.out.olen xn hxl, HI.out.ilen tn htl]) (1000001) (by rw [HI.out.olen xn hxl]; omega)
                rw [← HXN.out] at hro hjf
                refine (liveness_set_join.calls 1000001 (fun b => lab2 b = 4 * x.toNat + 2) (vo x.toNat) (outs2 x.toNat) Ai ci2 (ins tn) _ w1 wr.drew HSD.out.below hro (Kd.C_kept_own hri (fun b hb hb2 => by have h3 : lab2 b = 4 * tn + 1 := hb; have h4 : lab2 b = 4 * x.toNat + 2 := hb2; omega)) (Kd.R_reads' hri).2.1 hjf).mono ?_
                rintro e w8 ⟨rfl, hR8, hB8, hK8⟩
                rw [HXN.out] at hR8 hK8 hjf hro
                have HS8 := Aside0.mk (HSD.out.joined hxl hB8 hK8 hR8)
                have HI8 := Aside0.mk (HI.out.join1 (by omega) HWF.out rfl hxl htl)
                have HM8 := Aside0.mk (HM.out.step (w1 := w8) (fun D hD hl => hK8.2 D (blk_lt hD) (fun h => by have h2 : lab2 D = 4 * xn + 2 := h; omega)))
                have HR8 := Aside0.mk (R_keep HR7.out (w1 := w8) (fun q _ _ hc ho => hK8.2 q (blk_lt hc) (fun h => by have h2 : lab2 q = 4 * xn + 2 := h; have h3 : lab2 q = 20 := ho; omega)))
                clear hbd hro hri hjf hR8 hB8 hK8 ci co e0
                go_wp2_with fail
                go_roundw
                case rel => exact ⟨k2 + 1, rfl, by omega, by omega, ⟨_, _, HS8.out, HM8.out, HI8.out, HR8.out⟩⟩
                case measure => simp [intOf]; omega
              · have HBr := Aside0.mk (blk_below (by rw [hw1] at HBF; exact HBF.out) HS.out.below)
                obtain ⟨f0, f1, f2, f3⟩ := blk4 HBr.out
                have HWr : Aside0 (Below w.heap.size w wr) := ⟨below_then HW1.out HW1.out.size HS.out.below⟩
                obtain ⟨adb, A5, c5, hA, h1, h2, h3, h4, h5, hl5, hr5⟩ := at_T49 HR3.out x hx0 hx1
                cases hA
                have HR5b := Aside0.mk hr5; clear hr5
                replace h1 := (HWr.out.cell (World.block_lt_of_cell? w _ h1)).trans h1
                replace h2 := (HWr.out.cell (World.block_lt_of_cell? w _ h2)).trans h2
                replace h3 := (HWr.out.cell (World.block_lt_of_cell? w _ h3)).trans h3
                replace h4 := (HWr.out.cell (World.block_lt_of_cell? w _ h4)).trans h4
                replace h5 := (HWr.out.cell (World.block_lt_of_cell? w _ h5)).trans h5
                obtain ⟨Ao, co2, hvo⟩ := Kd.R_slice (HS.out.lo xn hxl (fun h => h))
                have co : wr.cell? ⟨go, x.toNat, none⟩ = some (.slice Ao (outs2 xn).length co2) := by rw [HXN.out, ← hvo]; exact (HS.out.ro (fun h => h)).cell hxl
                have HVO := Aside0.mk hvo; clear hvo
                go_wp2_with fail
                have HCO : Aside0 (Kd.C kU wr Ao (outs2 xn).length (outs2 xn) ∧ (outs2 xn).length ≤ co2) := ⟨by have h := Kd.R_reads' (HVO.out ▸ HS.out.lo xn hxl (fun h => h)); exact ⟨h.2.2, h.2.1⟩⟩
                have hco2 := HCO.out.2
                have hol : (outs2 xn).length ≤ 1000000 := by rw [HI.out.olen xn hxl]; omega
                have HXX : Aside0 ((rd_T49 blks x).f1 = 2 → 0 ≤ (rd_T49 blks x).f2 ∧ (rd_T49 blks x).f2 < 64 * (outs2 xn).length) := ⟨fun h => by have := HBW.out.x h; rw [HI.out.olen xn hxl]; omega⟩
                go_cut [13] from 68 to 141 (fun s13 wx => LiveMade wr (atEndL (rd_T49 blks x) (outs2 xn)) s13 wx)
                case first =>
                  have hz0 := World.block_lt_of_cell? _ _ f3
                  have hz1 := World.block_lt_of_cell? _ _ h1
                  have hz2 := World.block_lt_of_cell? _ _ co
                  go_region_held3 (fun W => W.cell? ⟨w.heap.size, 3, none⟩ = some (.slice (some adb) blks.length c3) ∧ W.cell? (adb.add (x.toNat * 5)) = some (.slice A5 (rd_T49 blks x).f0.length c5) ∧ W.cell? ⟨(adb.add (x.toNat * 5)).block, (adb.add (x.toNat * 5)).off + 1, none⟩ = some (.int .u8 (rd_T49 blks x).f1) ∧ W.cell? ⟨(adb.add (x.toNat * 5)).block, (adb.add (x.toNat * 5)).off + 2, none⟩ = some (.int .i64 (rd_T49 blks x).f2) ∧ W.cell? ⟨(adb.add (x.toNat * 5)).block, (adb.add (x.toNat * 5)).off + 3, none⟩ = some (.int .i64 (rd_T49 blks x).f3) ∧ W.cell? ⟨(adb.add (x.toNat * 5)).block, (adb.add (x.toNat * 5)).off + 4, none⟩ = some (.int .i64 (rd_T49 blks x).f4) ∧ W.cell? ⟨go, x.toNat, none⟩ = some (.slice Ao (outs2 xn).length co2))
                    (first
                      | go_keep
                      | (refine ⟨pw_cell_below (w := wr) ?_ f3, pw_cell_below (w := wr) ?_ h1, pw_cell_below (w := wr) ?_ h2, pw_cell_below (w := wr) ?_ h3, pw_cell_below (w := wr) ?_ h4, pw_cell_below (w := wr) ?_ h5, pw_cell_below (w := wr) ?_ co⟩ <;> first | exact below_drew (Below.refl _ _) | exact below_step (below_drew (Below.refl _ _)) hb8 | exact below_alloc (below_step (below_drew (Below.refl _ _)) hb8) _ | exact below_alloc (below_drew (Below.refl _ _)) _ | exact below_drew (below_alloc (Below.refl _ _) _) | exact below_step (below_drew (below_alloc (Below.refl _ _) _)) hb8 | exact (below_step (below_drew (below_alloc (Below.refl _ _) _)) hb8).setCell (p := ⟨wr.heap.size, 0, none⟩) (Nat.le_refl _) _ | exact below_step (below_alloc (below_drew (Below.refl _ _)) _) hb8 | exact (below_step (below_alloc (below_drew (Below.refl _ _)) _) hb8).setCell (p := ⟨wr.heap.size, 0, none⟩) (Nat.le_refl _) _)
                      | fail)
                    (first
                      | (go_at_call 93
                         with_reducible refine (atEnd_any A5 (rd_T49 blks x).f0.length c5 (rd_T49 blks x) Ao co2 (outs2 xn) _ (Aside0.out ?_) hco2 hol HXX.out).mono ?_
                         (first | exact ⟨Kd.C_below HCO.out.1 (below_drew (Below.refl _ _))⟩ | exact ⟨Kd.C_below HCO.out.1 (below_alloc (below_drew (Below.refl _ _)) _)⟩ | exact ⟨Kd.C_below HCO.out.1 (below_drew (below_alloc (Below.refl _ _) _))⟩)
                         rintro e w8 ⟨v8, rfl, hR8, hb8⟩
                         obtain ⟨A8, c8, hv8⟩ := Kd.R_slice hR8
                         subst hv8
                         try (have hbl := blk_below (show (wr.alloc (.cells #[.slice none 0 0] 159)).drew.heap[wr.heap.size]? = some (.cells #[.slice none 0 0] 159 (0, 0)) from blk_new wr (.cells #[.slice none 0 0] 159)) hb8
                              have cbl := blk1 hbl
                              have fbl : w8.frozen? ⟨wr.heap.size, 0, none⟩ = false := (by simp [World.frozen?, show w8.heap[wr.heap.size]? = _ from hbl]))))
                  all_goals
                    go_wp2_with fail
                    go_meet
                    first
                    | exact liveMade1 hR8 hb8
                    | exact liveMade2 hR8 hb8
                case rest =>
                  obtain ⟨bl, Al, cl, rfl, hbl, hRl, hbw, hbl0⟩ := hcut
                  have HSc := Aside0.mk ((HS.out.fresh 16).after hbw)
                  have HMc := Aside0.mk ((HM.out.relab (lab' := labN lab2 wr.heap.size 16) (fun k hk hl => (labN_lt hk).trans hl)).below hbw)
                  have HRl := Aside0.mk (R_fresh (lab := lab2) (L := 16) (W := wr) hRl HS.out.below.size)
                  have HBL := Aside0.mk hbl
                  have HBw := Aside0.mk hbw
                  replace f0 := pw_cell_below hbw f0
                  replace f1 := pw_cell_below hbw f1
                  replace f2 := pw_cell_below hbw f2
                  replace f3 := pw_cell_below hbw f3
                  replace h1 := pw_cell_below hbw h1
                  replace h2 := pw_cell_below hbw h2
                  replace h3 := pw_cell_below hbw h3
                  replace h4 := pw_cell_below hbw h4
                  replace h5 := pw_cell_below hbw h5
                  clear co hbl hRl hbw hbl0
                  go_wp2_with fail
                  refine ((callsIn_wide (n := 5)).1 (backward_in 5 A5 (rd_T49 blks x).f0.length c5 wc)).mono ?_
                  rintro e w9 ⟨rfl, rfl⟩
                  go_wp2_with fail
                  obtain ⟨W9, hW9⟩ : ∃ W9, wc.alloc (.cells #[.slice A5 (rd_T49 blks x).f0.length c5] 47) = W9 := ⟨_, rfl⟩
                  have hb9 : Below wc.heap.size wc W9 := by rw [← hW9]; exact below_alloc (Below.refl _ _) _
                  have hx9 : W9.heap[wc.heap.size]? = some (.cells #[.slice A5 (rd_T49 blks x).f0.length c5] 47 (0, 0)) := by rw [← hW9]; exact blk_new _ _
                  rw [hW9]
                  have HS9 := Aside0.mk (HSc.out.after hb9)
                  have HM9 := Aside0.mk (HMc.out.below hb9)
                  have HWW : Aside0 (Below w.heap.size w W9) := ⟨below_then HW1.out HW1.out.size HS9.out.below⟩
                  have HL9 := Aside0.mk (Kd.R_below HRl.out hb9)
                  have HBL9 := Aside0.mk (blk_below HBL.out hb9)
                  have HQ : Aside0 (∀ q, (Value.slice Al (atEndL (rd_T49 blks x) (outs2 xn)).length cl).ownBlock = some q → labN lab2 wr.heap.size 16 q = 16 ∧ q ≠ bl) := ⟨fun q hq => ⟨HRl.out.1 q hq, fun e => by
                    obtain ⟨cells, hc⟩ := Kd.R_typed HRl.out q hq
                    rw [e, HBL.out] at hc
                    simp at hc⟩⟩
                  have HI0 : Aside0 (LiveI w1 W9 gi go gp blks.length (labN lab2 wr.heap.size 16) vi vo vp ins outs2 prevs (.slice (some ad) j.toNat cw) ws bl (.slice Al (atEndL (rd_T49 blks x) (outs2 xn)).length cl) (atEndL (rd_T49 blks x) (outs2 xn)) regs [] W9) :=
                    ⟨HS9.out, fun _ _ _ => rfl, Kd.R_tight rfl HL9.out, HBL9.out, Nat.le_refl _⟩
                  have HQ2 : Aside0 (∀ q, (Value.slice Al (atEndL (rd_T49 blks x) (outs2 xn)).length cl).ownBlock = some q → q ≠ wc.heap.size ∧ w1.heap.size ≤ q) := ⟨fun q hq => ⟨Nat.ne_of_lt (Kd.R_lt HRl.out q hq), Kd.R_base HRl.out q hq⟩⟩
                  have hz5 : w.heap.size ≤ w1.heap.size := HW1.out.size
                  have hlL : (atEndL (rd_T49 blks x) (outs2 xn)).length = ((regs + 63) / 64).toNat := (atEndL_len _ _).trans (HI.out.olen xn hxl)
                  have HLL := Aside0.mk hlL; clear hlL
                  have hz1 : w1.heap.size ≤ W9.heap.size := HS9.out.below.size
                  have hz2 : w.heap.size ≤ W9.heap.size := HWW.out.size
                  have hz3 : wc.heap.size < W9.heap.size := blk_lt hx9
                  have hcl5 : (rd_T49 blks x).f0.length ≤ 1000000 := HLEN.out _ (mem_rd (z := z49) hx0 hx1)
                  refine (wpIn_wide (n := 5)).1 (wpIn_rangeFunc_ownH (α := { x : Int × S51 // insWf regs x.2 }) rfl (by decide) (gf := 110) (lb := #[.pointer (some ⟨wc.heap.size, 0, none⟩)]) rfl trivial callFunc_Backward1
                    (back_stops 4 wc.heap.size A5 c5 (rd_T49 blks x).f0 (insWf regs) w W9 (by decide) HR5b.out hl5 hcl5 HBW.out.ins HWW.out hx9) (fun h k => KB.trans h k) (KB.putObj hz2 hz3) (Below.refl _ _) (fun _ => rfl)
                    (LiveI w1 W9 gi go gp blks.length (labN lab2 wr.heap.size 16) vi vo vp ins outs2 prevs (.slice (some ad) j.toNat cw) ws bl (.slice Al (atEndL (rd_T49 blks x) (outs2 xn)).length cl) (atEndL (rd_T49 blks x) (outs2 xn)) regs) (fun _ _ _ => False) (LiveI.own hz1) (fun _ _ _ _ _ h _ _ => h) HI0.out
                    (fun y a' W => ∃ b15, a' = { tmps := #[.agg #[.string nm, .int .i64 regs, .slice A na c, .slice (some adb) blks.length c3], .pointer (some ⟨w.heap.size, 0, none⟩), .slice (some ⟨gi, 0, none⟩) blks.length blks.length, .slice (some ⟨go, 0, none⟩) blks.length blks.length, .int .i64 (blks.length : Int), .slice (some ⟨gp, 0, none⟩) blks.length blks.length, .slice (some ad) j.toNat cw, u7, undef, u9, .int .i64 x, undef, u12, .pointer (some ⟨bl, 0, none⟩), undef, .pointer (some ⟨b15, 0, none⟩), .pointer (some ⟨w.heap.size, 3, none⟩), .slice (some adb) blks.length c3, .int .i64 (blks.length : Int), u19, u20, u21, u22, .int .i64 (blks.length : Int), .slice (some ⟨gp, 0, none⟩) blks.length blks.length, .int .i64 (blks.length : Int), .int .i64 (blks.length : Int), .bool false, u28, u29, u30, u31, u32, u33, u34, u35, u36, u37, u38, u39, u40, u41, u42, u43, u44, u45, u46, u47, u48, u49, u50, u51, u52, u53, u54, u55, u56, u57, u58, u59, u60, u61, u62, u63, u64, u65, u66, u67, u68, u69, u70, u71, u72, u73, u74, u75, u76, u77, u78, u79, u80, u81, u82, u83, u84, u85, u86, u87, u88, u89, u90, u91, u92, u93, u94, u95, u96, u97, u98, u99, u100, u101, u102, u103, u104, u105, u106, u107, u108, u109, u110, u111, u112, .pointer (some ⟨w.heap.size, 3, none⟩), .slice (some adb) blks.length c3, .int .i64 x, .pointer (some (adb.add (x.toNat * 5))), .pointer (some (adb.add (x.toNat * 5))), .slice A5 (rd_T49 blks x).f0.length c5, .func (.func 110) #[] #[.pointer (some ⟨wc.heap.size, 0, none⟩)], .int .i64 y.1.1, (.agg #[.int .u8 y.1.2.f0, .int .i64 y.1.2.f1, .int .i64 y.1.2.f2, .int .i64 y.1.2.f3, .int .i64 y.1.2.f4, .string y.1.2.f5]), u122, u123, u124, u125, u126, u127, u128, u129, u130, u131, u132, u133, u134, u135, u136, u137, u138, u139, u140, u141, undef, undef], defers := [] } ∧ W.heap[b15]? = some (.cells #[.int .u8 y.1.2.f0, .int .i64 y.1.2.f1, .int .i64 y.1.2.f2, .int .i64 y.1.2.f3, .int .i64 y.1.2.f4, .string y.1.2.f5] 51 (0, 0))) ?own ?assign ?body ?done ?stop)
                  case own =>
                    rintro y a' _ W W' row ⟨b15, e, hb⟩ hg hr
                    exact ⟨b15, e, (hg.block b15 (blk_lt hb) (fun e => by
                      obtain ⟨_, o, ho, hc2⟩ := hr b15 e.symm
                      rw [hb] at ho
                      injection ho with ho
                      subst ho
                      cases hc2)).trans hb⟩
                  case assign =>
                    intro l pre y W K0 hI hK0
                    simp only [encB, insV]
                    gi_wp2
                    exact hK0 _ _ ((KeepsOthers.alloc _ _).from _) (hI.kbAlloc hz2 hz3 _) (hI.below (below_alloc (Below.refl _ _) _)) ⟨W.heap.size, rfl, blk_new _ _⟩
                  case body =>
                    rintro l pre y a' W hl0 hrec hI ⟨b15, rfl, hb15⟩ hlen
                    obtain ⟨i0, i1, i2, i3, i4, i5⟩ := blk6 hb15
                    have lb := blk1 hI.box
                    have HIw := Aside0.mk hI
                    clear hI hb15 hrec
                    have hbf := before_f regs y.1.2 (backL (pre.map (·.1.2)) (atEndL (rd_T49 blks x) (outs2 xn))) y.2 (by rw [backL_len, HLL.out]; omega) (by rw [backL_len, HLL.out]; omega)
                    have HBF2 := Aside0.mk hbf; clear hbf
                    gi_wp2
                    refine ⟨trivial, CallsIn.inRound l ((callsIn_wide (n := 2)).2 ((liveness_before.calls 4 _ _ _ _ _ _ (fun k => some k = (Value.slice Al (atEndL (rd_T49 blks x) (outs2 xn)).length cl).ownBlock) (.slice Al (atEndL (rd_T49 blks x) (outs2 xn)).length cl) _ _ w1 W HIw.out.st.below HIw.out.live HBF2.out).mono ?_))⟩
                    rintro e W2 ⟨rfl, hR2, hB2, hK2⟩
                    gi_wp2
                    exact ⟨HIw.out.keeps hK2, HIw.out.kbRound hz5 hz3 hB2 hK2 HQ2.out, HIw.out.round HQ.out hB2 hK2 y hR2⟩
                  case done =>
                    intro D xs W hD hxs hI hDD
                    obtain ⟨sl, hsl⟩ : ∃ sl, backL (xs.map (·.1.2)) (atEndL (rd_T49 blks x) (outs2 xn)) = sl := ⟨_, rfl⟩
                    have hslB : sl = liveB (rd_T49 blks x) (outs2 xn) := by rw [← hsl, back_rev hxs]; rfl
                    have hlen : sl.length = (atEndL (rd_T49 blks x) (outs2 xn)).length := by rw [← hsl]; exact backL_len _ _
                    have hlive := hI.live
                    rw [hsl] at hlive
                    have HST := Aside0.mk (hI.st.relabel2 (Y := fun _ => False) (lab' := fun k => if k = D then 24 else labN lab2 wr.heap.size 16 k) (fun k _ hc _ => by
                      rw [if_neg (fun e => by
                        have h3 : labN lab2 wr.heap.size 16 k = 16 := labN_ge (by have := HBw.out.size; omega)
                        omega)]) (fun _ h => h) (fun h => h) (fun h => h) (fun h => h))
                    have hm1 : Marks ds (fun k => if k = D then 24 else labN lab2 wr.heap.size 16 k) w1.heap.size W9 := HM9.out.relab (fun k hk hl => by
                      rw [if_neg (by omega)]; exact hl)
                    have HMK := Aside0.mk ((HM9.out.step (w1 := W) (fun E hE hl => hI.mrk E hE hl)).relab (lab' := fun k => if k = D then 24 else labN lab2 wr.heap.size 16 k) (fun k hk hl => by
                      split
                      · rfl
                      · exact hl) |>.cons hm1 hDD (by simp) (by omega) hD)
                    have HLV := Aside0.mk hlive; have HSLB := Aside0.mk hslB; have HLEN2 := Aside0.mk hlen
                    have HQ3 : Aside0 (∀ q, (Value.slice Al (atEndL (rd_T49 blks x) (outs2 xn)).length cl).ownBlock = some q → (if q = D then 24 else labN lab2 wr.heap.size 16 q) = 16) := ⟨fun q hq => by
                      rw [if_neg (fun e => by have := Kd.R_lt HRl.out q hq; omega)]
                      exact (HQ.out q hq).1⟩
                    have lb := blk1 hI.box
                    obtain ⟨Ain, cin, hvin⟩ := Kd.R_slice (HST.out.li xn hxl (fun h => h))
                    have cin0 : W.cell? ⟨gi, x.toNat, none⟩ = some (.slice Ain (ins xn).length cin) := by rw [HXN.out, ← hvin]; exact (HST.out.ri (fun h => h)).cell hxl
                    have hcl := (Kd.R_reads' hlive)
                    have hcin := (Kd.R_reads' (hvin ▸ HST.out.li xn hxl (fun h => h)))
                    have hiL : (ins xn).length = sl.length := by rw [HI.out.ilen xn hxl, hlen, HLL.out]
                    have heq := equal_f (s := sl) (t := ins xn) (by rw [hlen, HLL.out]; omega) hiL
                    have hbd : Below W.heap.size W W.drew := below_drew (Below.refl _ _)
                    have hclC : Kd.C kU W.drew Al sl.length sl := Kd.C_below hcl.2.2 hbd
                    have hciC : Kd.C kU W.drew Ain (ins xn).length (ins xn) := Kd.C_below hcin.2.2 hbd
                    have HEQ := Aside0.mk (liveness_set_equal.calls (sl.length + 1) Al cl sl Ain cin (ins xn) _ W.drew hclC (by have := hcl.2.1; omega) hciC hcin.2.1 heq)
                    rw [hlen] at HEQ
                    clear hsl hslB hlen hlive hm1 hcl hcin hiL heq hbd hclC hciC hI hDD hvin hxs
                    go_wp2_with fail
                    go_still_tail 5, (by kernel_rfl)
                    change wpList _ _ _ _ _ W.drew
                    go_wp2_with fail
                    refine HEQ.out.mono ?_
                    rintro e w11 ⟨rfl, hdr⟩
                    have hb11 : Below W.heap.size W w11 := below_step (below_drew (Below.refl _ _)) hdr.below
                    have HS11 := Aside0.mk (HST.out.after hb11)
                    have HM11 := Aside0.mk (HMK.out.below hb11)
                    have HL11 := Aside0.mk (Kd.R_below HLV.out hb11)
                    have lb11 := pw_cell_below hb11 lb
                    obtain rfl := HXN.out
                    have HMS := Aside0.mk (solveM_pop blks.length ins ws x)
                    clear hdr hb11 lb cin0 HEQ
                    by_cases hse : sl = ins x.toNat
                    · have hde : decide (sl = ins x.toNat) = true := decide_eq_true hse
                      clear hse
                      go_wp2_with fail
                      go_roundg (solveM blks.length ins ws)
                      case rel => exact ⟨_, vi, vo, vp, ins, outs2, prevs, ws, HS11.out, HM11.out, HI.out, rfl, by have := HMS.out; have := HGK.out; have := HBD.out; omega⟩
                      case measure => have := HMS.out; have := HGK.out; omega
                    · have hde : decide (sl = ins x.toNat) = false := decide_eq_false hse
                      have HNE := Aside0.mk hse; clear hse
                      have ci11 := (HS11.out.ri (fun h => h)).cell hxl
                      have fi11 := (HS11.out.ri (fun h => h)).free x.toNat
                      obtain ⟨lab5, hl24, hS12⟩ := HS11.out.takeLive hxl HL11.out HQ3.out
                      obtain ⟨W12, hW12⟩ : ∃ W12, w11.setCell ⟨gi, x.toNat, none⟩ (.slice Al (atEndL (rd_T49 blks x) (outs2 x.toNat)).length cl) = W12 := ⟨_, rfl⟩
                      rw [hW12] at hS12
                      have hM12 : Marks ({ target := .collected D, args := #[] } :: ds) lab5 w1.heap.size W12 := (HM11.out.step (w1 := W12) (fun E hE hl => by
                        rw [← hW12]
                        exact Below.heap_setCell _ _ _ _ (fun e => by
                          obtain ⟨cs, hc, _⟩ := HS11.out.ri (fun h => h)
                          rw [e, hc] at hE
                          simp at hE))).relab (fun k _ hk => hl24 k hk)
                      have HS12 := Aside0.mk (hS12.fresh 0)
                      have HM12 := Aside0.mk (hM12.relab (lab' := labN lab5 W12.heap.size 0) (fun k hk hl => (labN_lt hk).trans hl))
                      have HLK : Aside0 (kI.R 3 W12 w1.heap.size (fun b => labN lab5 W12.heap.size 0 b = 0) (.slice (some ad) j.toNat cw) ws) := ⟨HS12.out.lk (fun h => h)⟩
                      obtain ⟨Apv, cpv, hvp⟩ := Kd.R_slice (HS12.out.lp x.toNat hxl (fun h => h))
                      have cp12 : W12.cell? ⟨gp, x.toNat, none⟩ = some (.slice Apv (prevs x.toNat).length cpv) := by rw [← hvp]; exact (HS12.out.rp (fun h => h)).cell hxl
                      have HPC := Aside0.mk (Kd.R_reads' (hvp ▸ HS12.out.lp x.toNat hxl (fun h => h))).2.2
                      have HPL := Aside0.mk (HI.out.prev x.toNat hxl).1
                      have HZL := Aside0.mk (zsum_lt (ins x.toNat) (liveB (rd_T49 blks ((x.toNat : Nat) : Int)) (outs2 x.toNat)) (HI.out.le x.toNat hxl) (HI.out.ican x.toNat hxl) (liveB_canon _ (HI.out.ocan x.toNat hxl)) (fun h => HNE.out (by rw [HSLB.out, h, show ((x.toNat : Nat) : Int) = x from by omega])))
                      have HIC := Aside0.mk (HI.out.change (fun i hi => HWF.out _ (mem_rd (z := z49) (i := (i : Int)) (by omega) (by omega))) hxl)
                      rw [show ((x.toNat : Nat) : Int) = x from by omega, ← HSLB.out] at HIC HZL
                      clear hS12 hM12 hl24 hvp
                      have hwsl : ws.length ≤ 2010000000000 := by have := HMW.out; omega
                      have HWS := Aside0.mk hwsl; clear hwsl
                      go_wp2_with (at_builtin; refine Kd.R_append_row (Value.int .i64) 0 (w0 := w1) w1.heap.size rfl (.tmp 136) (.tmp 140) 37 3 (.int .i64 0) 8 rfl Try.underlying37 info3 rfl (by decide) (.slice (some ad) j.toNat cw) ws (prevs x.toNat) Apv (prevs x.toNat).length cpv (fun b => labN lab5 W12.heap.size 0 b = 0) rfl rfl (fun b hb => labN_ge hb) HLK.out HPC.out ?eB ?eS ?eL ?_; (case eB => exact HS12.out.below); (case eS => exact HS12.out.below.size); (case eL => (have := HWS.out; have := HPL.out; omega)); intro v14 w14 hR14 hB14 hg14 hat14; have HS14 := Aside0.mk ((HS12.out.grown (L := 0) hg14 (fun b hb => ⟨HLK.out.1 b hb, Kd.R_base HLK.out b hb⟩)).putK hR14); have HM14 := Aside0.mk (HM12.out.step (w1 := w14) (fun E hE hl => hg14.block E (blk_lt hE) (fun e => by have := HLK.out.1 E e.symm; omega))); clear hR14 hB14 hg14 hat14)
                      go_roundg (solveM blks.length (upd ins x.toNat sl) (ws ++ prevs x.toNat))
                      case rel => exact ⟨_, _, vo, vp, _, outs2, prevs, _, HS14.out, HM14.out, HIC.out, rfl, by have := solveM_change (s := sl) (work := ws) hxl HZL.out HPL.out x; have := HGK.out; have := HBD.out; omega⟩
                      case measure => have := solveM_change (s := sl) (work := ws) hxl HZL.out HPL.out x; have := HGK.out; omega
                  case stop =>
                    intro D c pre W _ _ h _
                    exact h.elim
end Go.Proofs.Ytadaopfcgpfiiaa
