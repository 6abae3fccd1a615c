/- Lemmas: what the theorem of the claim's last text needs, joined by a program out of the seat's texts A5, B2, B3, B4. -/
import Derived.Test.YtadaopfcgpfiiaaBaseX17
import Derived.Test.YtadaopfcgpfiiaaBaseX18
import Derived.Test.YtadaopfcgpfiiaaBaseX19
namespace Go.Proofs.Ytadaopfcgpfiiaa
open Go.RowKit Go.Proofs.YtadaopfcgpfiiaaW.PrintWords Go.Proofs.YtadaopfcgpfiiaaW.PrintLast Go.Proofs.YtadaopfcgpfiiaaW.PrintMore PCg
set_option linter.unusedVariables false
set_option linter.unusedSimpArgs false
def allTo (n : Nat) (p : Int → Bool) : Bool := (List.range n).all fun j => p j
theorem allTo_true {n : Nat} {p : Int → Bool} (h : ∀ j : Int, 0 ≤ j → j < n → p j = true) : allTo n p = true := by
  unfold allTo
  rw [List.all_eq_true]
  intro j hj
  have := List.mem_range.1 hj
  exact h j (by omega) (by omega)
theorem allTo_false {n : Nat} {p : Int → Bool} {j : Int} (h0 : 0 ≤ j) (h1 : j < n) (hp : p j = false) : allTo n p = false := by
  unfold allTo
  rw [List.all_eq_false]
  exact ⟨j.toNat, List.mem_range.2 (by omega), by rw [show ((j.toNat : Nat) : Int) = j from by omega, hp]; simp⟩
def arrOkAt (arrs shared : List S44) (j : Int) : Bool :=
  decide (1 ≤ (rd_T44 arrs j).f1) && decide ((rd_T44 arrs j).f1 ≤ 32) && !hasName (arrs.take j.toNat) (rd_T44 arrs j).f0 && !hasName shared (rd_T44 arrs j).f0
def shOkAt (shared : List S44) (j : Int) : Bool := !hasName (shared.take j.toNat) (rd_T44 shared j).f0
def blkOk (regs nb : Int) (arrs shared : List S44) (b : S49) : Bool := endOk regs nb b.f1 b.f2 b.f3 b.f4 && b.f0.all (insOk regs arrs shared)
/-- ir.Valid -/
def irOk (regs : Int) (arrs : List S44) (blks : List S49) (shared : List S44) : Bool :=
  decide (blks.length ≠ 0) && decide (0 ≤ regs) && decide (regs ≤ 10000) && decide (arrs.length ≤ 4) && allTo arrs.length (arrOkAt arrs shared) && allTo shared.length (shOkAt shared) &&
    allTo blks.length (fun j => blkOk regs blks.length arrs shared (rd_T49 blks j))
theorem infoArr_spec : Try.prog.info? 44 = some (Option.get (Try.prog.info? 44) (by kernel_rfl)) := by kernel_rfl
set_option maxRecDepth 100000 in
set_option maxHeartbeats 2000000 in
theorem irValid_go (nm : ByteArray) (regs : Int) (A : Option Addr) (c : Nat) (arrs : List S44) (A3 : Option Addr) (c3 : Nat) (blks : List S49) (A2 : Option Addr) (c2 : Nat) (shared : List S44) (w : World)
    (hr : Kd.C k44 w A arrs.length arrs) (hcp : arrs.length ≤ c)
    (hr3 : Kd.C k49 w A3 blks.length blks) (hcp3 : blks.length ≤ c3) (hm3 : blks.length ≤ 9223372036854775806) (hmc : ∀ b ∈ blks, b.f0.length ≤ 9223372036854775806)
    (hr2 : Kd.C k44 w A2 shared.length shared) (hcp2 : shared.length ≤ c2) (hm2 : shared.length ≤ 9223372036854775806)
    (q1 : 0 < blks.length) (q2 : 0 ≤ regs) (q3 : regs ≤ 10000) (q4 : (arrs.length : Int) ≤ 4) :
    Calls Try.prog 13 #[.agg #[.string nm, .int .i64 regs, .slice A arrs.length c, .slice A3 blks.length c3], .slice A2 shared.length c2] w
      fun e w' => e = .returned (.bool (irOk regs arrs blks shared)) ∧ Below w.heap.size w w' := by
  have HR := Aside0.mk hr; clear hr
  have HR2 := Aside0.mk hr2; clear hr2
  have HR3 := Aside0.mk hr3; clear hr3
  have HMC := Aside0.mk hmc; clear hmc
  have hu := Try.underlying44
  have hu2 := Try.underlying49
  have hu3 := Try.underlying25
  have q1b : ((blks.length : Int) == 0) = false := beq_eq_false_iff_ne.2 (by omega)
  have q4b : decide (4 < (arrs.length : Int)) = false := by simp; omega
  have HSP : Aside0 (∀ a1 a2 a3, allTo arrs.length (arrOkAt arrs shared) = a1 → allTo shared.length (shOkAt shared) = a2 → allTo blks.length (fun j => blkOk regs blks.length arrs shared (rd_T49 blks j)) = a3 → irOk regs arrs blks shared = (a1 && a2 && a3)) :=
    ⟨fun a1 a2 a3 h1 h2 h3 => by
      unfold irOk
      rw [h1, h2, h3, decide_eq_true (show blks.length ≠ 0 by omega), decide_eq_true q2, decide_eq_true q3, decide_eq_true (show arrs.length ≤ 4 by omega)]
      simp⟩
  have HBF : Aside0 (Below w.heap.size w ((w.alloc (.cells #[.string nm, .int .i64 regs, .slice A arrs.length c, .slice A3 blks.length c3] 25)).alloc (.cells #[.slice A2 shared.length c2] 22))) := ⟨((Below.refl _ _).alloc (Nat.le_refl _) _).alloc (by simp) _⟩
  go_enter Try.func13, Try.ntmps13
  go_wp2_with fail
  go_loopw [34] (fun i wr => ∃ k : Int, i = .int .i64 k ∧ 0 ≤ k ∧ k ≤ arrs.length ∧ Aside0 (∀ j : Int, 0 ≤ j → j < k → arrOkAt arrs shared j = true) ∧ Aside0 (Below w.heap.size w wr) ∧
      Aside0 (wr.heap[w.heap.size]? = some (.cells #[.string nm, .int .i64 regs, .slice A arrs.length c, .slice A3 blks.length c3] 25 (0, 0))) ∧ Aside0 (wr.heap[w.heap.size + 1]? = some (.cells #[.slice A2 shared.length c2] 22 (0, 0)))) (fun i wr => arrs.length - (intOf i).toNat)
  case atStart => exact ⟨0, rfl, Int.le_refl _, by omega, ⟨fun j _ hj => by omega⟩, HBF, ⟨blk_alloc (blk_new w _) _⟩, ⟨heap_alloc_at _ _ _ (by simp)⟩⟩
  case round =>
    obtain ⟨k, rfl, hk0, hk, HN, HB, BF, BS⟩ := hrel
    have hz0 := blk_lt BF.out
    have hz1 := blk_lt BS.out
    obtain ⟨f0, f1, f2, f3⟩ := blk4 BF.out
    have g0 := blk1 BS.out
    by_cases hlt : k < arrs.length
    · obtain ⟨ad, hA, h0, h1⟩ := at_T44 HR.out k hk0 hlt
      cases hA
      replace h0 := (HB.out.cell (World.block_lt_of_cell? w _ h0)).trans h0
      replace h1 := (HB.out.cell (World.block_lt_of_cell? w _ h1)).trans h1
      have p110 := eq_true hk0
      have q110 := eq_true hlt
      have hcut := fun W => cut_to (P := Try.prog) 22 44 .i64 Try.underlying22 infoArr_spec (some ad) arrs.length c k hk0 hk hcp W
      have HTL := Aside0.mk (show (arrs.take k.toNat).length = k.toNat from by rw [List.length_take]; omega)
      have HTC := Aside0.mk (show (arrs.take k.toNat).length ≤ c from by rw [List.length_take]; omega)
      have HTM := Aside0.mk (show (arrs.take k.toNat).length ≤ 9223372036854775806 from by rw [List.length_take]; omega)
      have HRT := Aside0.mk (Kd.C_take (m := k.toNat) HR.out (by omega))
      go_wp2_with fail
      have HB6 := Aside0.mk (below_alloc HB.out (.cells #[.string (rd_T44 arrs k).f0, .int .i64 (rd_T44 arrs k).f1] 44))
      have BA6 := blk_new wr (.cells #[.string (rd_T44 arrs k).f0, .int .i64 (rd_T44 arrs k).f1] 44)
      have BF6 := blk_alloc BF.out (.cells #[.string (rd_T44 arrs k).f0, .int .i64 (rd_T44 arrs k).f1] 44)
      have BS6 := blk_alloc BS.out (.cells #[.string (rd_T44 arrs k).f0, .int .i64 (rd_T44 arrs k).f1] 44)
      clear f0 f1 f2 f3 g0 h0 h1
      generalize wr.alloc (.cells #[.string (rd_T44 arrs k).f0, .int .i64 (rd_T44 arrs k).f1] 44) = w6 at *
      have hy0 := blk_lt BF6
      have hy1 := blk_lt BS6
      have hy2 := blk_lt BA6
      obtain ⟨f0, f1, f2, f3⟩ := blk4 BF6
      have g0 := blk1 BS6
      obtain ⟨a0, a1⟩ := blk2 BA6
      have BF7 := Aside0.mk BF6; have BS7 := Aside0.mk BS6
      clear BF6 BS6 BA6
      by_cases t1 : (rd_T44 arrs k).f1 < 1
      · have t1b := decide_eq_true t1
        go_quiet (fail)
        go_wp2
        go_ret
        exact ⟨retb (by rw [HSP.out _ _ _ (allTo_false hk0 hlt (by simp [arrOkAt]; omega)) rfl rfl]; simp), pw_below_drewN HB6.out _⟩
      · by_cases t2 : 32 < (rd_T44 arrs k).f1
        · have t1b := decide_eq_false t1
          have t2b := decide_eq_true t2
          go_quiet (fail)
          go_wp2
          go_ret
          exact ⟨retb (by rw [HSP.out _ _ _ (allTo_false hk0 hlt (by simp [arrOkAt]; omega)) rfl rfl]; simp), pw_below_drewN HB6.out _⟩
        · have t1b := decide_eq_false t1
          have t2b := decide_eq_false t2
          have HC1 : Aside0 (∀ b, hasName (arrs.take k.toNat) (rd_T44 arrs k).f0 = b → ∀ W, Below w6.heap.size w6 W → Calls Try.prog 31 #[.slice (some ad) k.toNat c, .string (rd_T44 arrs k).f0] W fun e W' => e = .returned (.bool b) ∧ Below W.heap.size W W') :=
            ⟨fun b hb W hW => hb ▸ has_len (some ad) c k.toNat (arrs.take k.toNat) _ _ HTL.out (Kd.C_below HRT.out (below_step HB6.out hW)) HTC.out HTM.out⟩
          have HC2 : Aside0 (∀ b, hasName shared (rd_T44 arrs k).f0 = b → ∀ W, Below w6.heap.size w6 W → Calls Try.prog 31 #[.slice A2 shared.length c2, .string (rd_T44 arrs k).f0] W fun e W' => e = .returned (.bool b) ∧ Below W.heap.size W W') :=
            ⟨fun b hb W hW => hb ▸ has_len A2 c2 shared.length shared _ _ rfl (Kd.C_below HR2.out (below_step HB6.out hW)) hcp2 hm2⟩
          cases hh1 : hasName (arrs.take k.toNat) (rd_T44 arrs k).f0 with
          | true =>
            have HH1 := Aside0.mk hh1; clear hh1
            first
            | (go_region_with ((go_at_call 31
                                with_reducible refine (HC1.out true HH1.out _ ?_).mono ?_
                                (exact below_drew (Below.refl _ _))
                                rintro e w2 ⟨rfl, hb2⟩)))
            | fail
            all_goals (have HB2 := Aside0.mk (below_step HB6.out (below_step (below_drew (Below.refl _ _)) hb2)); clear hb2)
            all_goals go_wp2
            all_goals go_ret
            all_goals exact ⟨retb (by rw [HSP.out _ _ _ (allTo_false hk0 hlt (by simp [arrOkAt, HH1.out])) rfl rfl]; simp), HB2.out⟩
          | false =>
            have HH1 := Aside0.mk hh1; clear hh1
            cases hh2 : hasName shared (rd_T44 arrs k).f0 with
            | true =>
              have HH2 := Aside0.mk hh2; clear hh2
              go_region_held3 (fun W => W.cell? ⟨w.heap.size, 2, none⟩ = some (.slice (some ad) arrs.length c) ∧ W.cell? ⟨w.heap.size + 1, 0, none⟩ = some (.slice A2 shared.length c2) ∧ W.cell? ⟨wr.heap.size, 0, none⟩ = some (.string (rd_T44 arrs k).f0) ∧ W.cell? ⟨wr.heap.size, 1, none⟩ = some (.int .i64 (rd_T44 arrs k).f1) ∧ Aside0 (Below w6.heap.size w6 W))
                (first
                | exact ⟨by go_keep, by go_keep, by go_keep, by go_keep, ⟨below_drew (Below.refl _ _)⟩⟩
                | (go_split_ands; exact ⟨keepCell hy0 (by assumption) hb2 (by assumption), keepCell hy1 (by assumption) hb2 (by assumption), keepCell hy2 (by assumption) hb2 (by assumption), keepCell hy2 (by assumption) hb2 (by assumption), keepBelow (by assumption) hb2⟩))
                (first
                  | (go_at_call 31
                     with_reducible refine (HC1.out false HH1.out _ (Aside0.out ?_)).mono ?_
                     (go_split_ands; assumption)
                     rintro e w2 ⟨rfl, hb2⟩)
                  | (go_at_call 31
                     with_reducible refine (HC2.out true HH2.out _ (Aside0.out ?_)).mono ?_
                     (go_split_ands; assumption)
                     rintro e w3 ⟨rfl, hb2⟩))
              go_split_ands
              have hS : Aside0 (Below w6.heap.size w6 w3) := by assumption
              have HB3 := Aside0.mk (below_step HB6.out hS.out)
              go_wp2
              go_ret
              exact ⟨retb (by rw [HSP.out _ _ _ (allTo_false hk0 hlt (by simp [arrOkAt, HH2.out])) rfl rfl]; simp), HB3.out⟩
            | false =>
              have HH2 := Aside0.mk hh2; clear hh2
              go_region_held3 (fun W => W.cell? ⟨w.heap.size, 2, none⟩ = some (.slice (some ad) arrs.length c) ∧ W.cell? ⟨w.heap.size + 1, 0, none⟩ = some (.slice A2 shared.length c2) ∧ W.cell? ⟨wr.heap.size, 0, none⟩ = some (.string (rd_T44 arrs k).f0) ∧ W.cell? ⟨wr.heap.size, 1, none⟩ = some (.int .i64 (rd_T44 arrs k).f1) ∧ Aside0 (Below w6.heap.size w6 W))
                (first
                | exact ⟨by go_keep, by go_keep, by go_keep, by go_keep, ⟨below_drew (Below.refl _ _)⟩⟩
                | (go_split_ands; exact ⟨keepCell hy0 (by assumption) hb2 (by assumption), keepCell hy1 (by assumption) hb2 (by assumption), keepCell hy2 (by assumption) hb2 (by assumption), keepCell hy2 (by assumption) hb2 (by assumption), keepBelow (by assumption) hb2⟩))
                (first
                  | (go_at_call 31
                     with_reducible refine (HC1.out false HH1.out _ (Aside0.out ?_)).mono ?_
                     (go_split_ands; assumption)
                     rintro e w2 ⟨rfl, hb2⟩)
                  | (go_at_call 31
                     with_reducible refine (HC2.out false HH2.out _ (Aside0.out ?_)).mono ?_
                     (go_split_ands; assumption)
                     rintro e w3 ⟨rfl, hb2⟩))
              go_split_ands
              have hS : Aside0 (Below w6.heap.size w6 w3) := by assumption
              have HB3 := Aside0.mk (below_step HB6.out hS.out)
              have BF3 := Aside0.mk (blk_below BF7.out hS.out)
              have BS3 := Aside0.mk (blk_below BS7.out hS.out)
              clear hS
              go_wp2
              go_roundw
              case rel =>
                refine ⟨k + 1, rfl, by omega, by omega, ⟨fun j h0 hlt => ?_⟩, HB3, BF3, BS3⟩
                by_cases e : j < k
                · exact HN.out j h0 e
                · obtain rfl : j = k := by omega
                  simp [arrOkAt, HH1.out, HH2.out]; omega
              case measure => simp [intOf]; omega
    · have N1 : Aside0 (allTo arrs.length (arrOkAt arrs shared) = true) := ⟨allTo_true fun j h0 h1 => HN.out j h0 (by omega)⟩
      clear HN
      go_wp2_with fail
      obtain ⟨w8, rfl⟩ : ∃ w8 : World, w8 = wr := ⟨_, rfl⟩
      go_loopw [65] (fun i wr => ∃ k : Int, i = .int .i64 k ∧ 0 ≤ k ∧ k ≤ shared.length ∧ Aside0 (∀ j : Int, 0 ≤ j → j < k → shOkAt shared j = true) ∧ Aside0 (Below w.heap.size w wr) ∧
          Aside0 (wr.heap[w.heap.size]? = some (.cells #[.string nm, .int .i64 regs, .slice A arrs.length c, .slice A3 blks.length c3] 25 (0, 0))) ∧ Aside0 (wr.heap[w.heap.size + 1]? = some (.cells #[.slice A2 shared.length c2] 22 (0, 0)))) (fun i wr => shared.length - (intOf i).toNat)
      case atStart => exact ⟨0, rfl, Int.le_refl _, by omega, ⟨fun j _ hj => by omega⟩, HB, BF, BS⟩
      case round =>
        clear HB BF BS hz0 hz1 f0 f1 f2 f3 g0
        obtain ⟨k2, rfl, hk0', hk', HN, HB, BF, BS⟩ := hrel
        have hz0 := blk_lt BF.out
        have hz1 := blk_lt BS.out
        obtain ⟨f0, f1, f2, f3⟩ := blk4 BF.out
        have g0 := blk1 BS.out
        by_cases hlt2 : k2 < shared.length
        · obtain ⟨ad, hA, h0, h1⟩ := at_T44 HR2.out k2 hk0' hlt2
          cases hA
          replace h0 := (HB.out.cell (World.block_lt_of_cell? w _ h0)).trans h0
          replace h1 := (HB.out.cell (World.block_lt_of_cell? w _ h1)).trans h1
          have p110 := eq_true hk0'
          have q110 := eq_true hlt2
          have hcut := fun W => cut_to (P := Try.prog) 22 44 .i64 Try.underlying22 infoArr_spec (some ad) shared.length c2 k2 hk0' hk' hcp2 W
          have HTL := Aside0.mk (show (shared.take k2.toNat).length = k2.toNat from by rw [List.length_take]; omega)
          have HTC := Aside0.mk (show (shared.take k2.toNat).length ≤ c2 from by rw [List.length_take]; omega)
          have HTM := Aside0.mk (show (shared.take k2.toNat).length ≤ 9223372036854775806 from by rw [List.length_take]; omega)
          have HRT := Aside0.mk (Kd.C_take (m := k2.toNat) HR2.out (by omega))
          go_wp2_with fail
          have HB6 := Aside0.mk (below_alloc HB.out (.cells #[.string (rd_T44 shared k2).f0, .int .i64 (rd_T44 shared k2).f1] 44))
          have BA6 := blk_new wr (.cells #[.string (rd_T44 shared k2).f0, .int .i64 (rd_T44 shared k2).f1] 44)
          have BF6 := blk_alloc BF.out (.cells #[.string (rd_T44 shared k2).f0, .int .i64 (rd_T44 shared k2).f1] 44)
          have BS6 := blk_alloc BS.out (.cells #[.string (rd_T44 shared k2).f0, .int .i64 (rd_T44 shared k2).f1] 44)
          clear f0 f1 f2 f3 g0 h0 h1
          generalize wr.alloc (.cells #[.string (rd_T44 shared k2).f0, .int .i64 (rd_T44 shared k2).f1] 44) = w6 at *
          have hy1 := blk_lt BS6
          have hy2 := blk_lt BA6
          have g0 := blk1 BS6
          obtain ⟨a0, a1⟩ := blk2 BA6
          have BF7 := Aside0.mk BF6; have BS7 := Aside0.mk BS6
          clear BF6 BS6 BA6
          have HC1 : Aside0 (∀ W, Below w6.heap.size w6 W → Calls Try.prog 31 #[.slice (some ad) k2.toNat c2, .string (rd_T44 shared k2).f0] W fun e W' => e = .returned (.bool (hasName (shared.take k2.toNat) (rd_T44 shared k2).f0)) ∧ Below W.heap.size W W') :=
            ⟨fun W hW => has_len (some ad) c2 k2.toNat (shared.take k2.toNat) _ _ HTL.out (Kd.C_below HRT.out (below_step HB6.out hW)) HTC.out HTM.out⟩
          go_region_held3 (fun W => W.cell? ⟨w.heap.size + 1, 0, none⟩ = some (.slice (some ad) shared.length c2) ∧ W.cell? ⟨wr.heap.size, 0, none⟩ = some (.string (rd_T44 shared k2).f0) ∧ Aside0 (Below w6.heap.size w6 W))
            (first
              | exact ⟨by go_keep, by go_keep, ⟨below_drew (Below.refl _ _)⟩⟩
              | (go_split_ands; exact ⟨keepCell hy1 (by assumption) hb2 (by assumption), keepCell hy2 (by assumption) hb2 (by assumption), keepBelow (by assumption) hb2⟩))
            (first
              | (go_at_call 31
                 with_reducible refine (HC1.out _ (Aside0.out ?_)).mono ?_
                 (go_split_ands; assumption)
                 rintro e w3 ⟨rfl, hb2⟩))
          go_split_ands
          have hS : Aside0 (Below w6.heap.size w6 w3) := by assumption
          have HB3 := Aside0.mk (below_step HB6.out hS.out)
          have BF3 := Aside0.mk (blk_below BF7.out hS.out)
          have BS3 := Aside0.mk (blk_below BS7.out hS.out)
          clear hS
          cases hh1 : hasName (shared.take k2.toNat) (rd_T44 shared k2).f0 with
          | true =>
            have HH1 := Aside0.mk hh1
            go_wp2
            go_ret
            exact ⟨retb (by rw [HSP.out _ _ _ rfl (allTo_false hk0' hlt2 (by simp [shOkAt, HH1.out])) rfl]; simp), HB3.out⟩
          | false =>
            have HH1 := Aside0.mk hh1
            go_wp2
            go_roundw
            case rel =>
              refine ⟨k2 + 1, rfl, by omega, by omega, ⟨fun j h0 hlt => ?_⟩, HB3, BF3, BS3⟩
              by_cases e : j < k2
              · exact HN.out j h0 e
              · obtain rfl : j = k2 := by omega
                simp [shOkAt, HH1.out]
            case measure => simp [intOf]; omega
        · have N2 : Aside0 (allTo shared.length (shOkAt shared) = true) := ⟨allTo_true fun j h0 h1 => HN.out j h0 (by omega)⟩
          clear HN
          go_wp2_with fail
          obtain ⟨w9, rfl⟩ : ∃ w9 : World, w9 = wr := ⟨_, rfl⟩
          go_loopw [80] (fun i wr => ∃ k : Int, i = .int .i64 k ∧ 0 ≤ k ∧ k ≤ blks.length ∧ Aside0 (∀ j : Int, 0 ≤ j → j < k → blkOk regs blks.length arrs shared (rd_T49 blks j) = true) ∧ Aside0 (Below w.heap.size w wr) ∧
              Aside0 (wr.heap[w.heap.size]? = some (.cells #[.string nm, .int .i64 regs, .slice A arrs.length c, .slice A3 blks.length c3] 25 (0, 0))) ∧ Aside0 (wr.heap[w.heap.size + 1]? = some (.cells #[.slice A2 shared.length c2] 22 (0, 0)))) (fun i wr => blks.length - (intOf i).toNat)
          case atStart => exact ⟨0, rfl, Int.le_refl _, by omega, ⟨fun j _ hj => by omega⟩, HB, BF, BS⟩
          case round =>
            clear HB BF BS hz0 hz1 f0 f1 f2 f3 g0
            obtain ⟨k3, rfl, hk0'', hk'', HN, HB, BF, BS⟩ := hrel
            have hz0 := blk_lt BF.out
            have hz1 := blk_lt BS.out
            obtain ⟨f0, f1, f2, f3⟩ := blk4 BF.out
            have g0 := blk1 BS.out
            by_cases hlt3 : k3 < blks.length
            · obtain ⟨ad, A5, c5, hA, h0, h1, h2, h3, h4, hl5, hr5⟩ := at_T49 HR3.out k3 hk0'' hlt3
              cases hA
              replace h0 := (HB.out.cell (World.block_lt_of_cell? w _ h0)).trans h0
              replace h1 := (HB.out.cell (World.block_lt_of_cell? w _ h1)).trans h1
              replace h2 := (HB.out.cell (World.block_lt_of_cell? w _ h2)).trans h2
              replace h3 := (HB.out.cell (World.block_lt_of_cell? w _ h3)).trans h3
              replace h4 := (HB.out.cell (World.block_lt_of_cell? w _ h4)).trans h4
              have HR5 := Aside0.mk hr5; clear hr5
              have p110 := eq_true hk0''
              have q110 := eq_true hlt3
              go_wp2_with fail
              have HB6 := Aside0.mk (below_alloc HB.out (.cells #[.slice A5 (rd_T49 blks k3).f0.length c5, .int .u8 (rd_T49 blks k3).f1, .int .i64 (rd_T49 blks k3).f2, .int .i64 (rd_T49 blks k3).f3, .int .i64 (rd_T49 blks k3).f4] 49))
              have BA6 := blk_new wr (.cells #[.slice A5 (rd_T49 blks k3).f0.length c5, .int .u8 (rd_T49 blks k3).f1, .int .i64 (rd_T49 blks k3).f2, .int .i64 (rd_T49 blks k3).f3, .int .i64 (rd_T49 blks k3).f4] 49)
              have BF6 := blk_alloc BF.out (.cells #[.slice A5 (rd_T49 blks k3).f0.length c5, .int .u8 (rd_T49 blks k3).f1, .int .i64 (rd_T49 blks k3).f2, .int .i64 (rd_T49 blks k3).f3, .int .i64 (rd_T49 blks k3).f4] 49)
              have BS6 := blk_alloc BS.out (.cells #[.slice A5 (rd_T49 blks k3).f0.length c5, .int .u8 (rd_T49 blks k3).f1, .int .i64 (rd_T49 blks k3).f2, .int .i64 (rd_T49 blks k3).f3, .int .i64 (rd_T49 blks k3).f4] 49)
              clear f0 f1 f2 f3 g0 h0 h1 h2 h3 h4
              generalize wr.alloc (.cells #[.slice A5 (rd_T49 blks k3).f0.length c5, .int .u8 (rd_T49 blks k3).f1, .int .i64 (rd_T49 blks k3).f2, .int .i64 (rd_T49 blks k3).f3, .int .i64 (rd_T49 blks k3).f4] 49) = w6 at *
              refine (end_any _ _ _ _ _ _ _ _ _ _ _ _ _ _ _ _).mono ?_
              rintro e w7 ⟨rfl, hb7⟩
              have HB7 := Aside0.mk (below_step HB6.out hb7)
              have BA7 := blk_below BA6 hb7
              have BF7 := blk_below BF6 hb7
              have BS7 := blk_below BS6 hb7
              clear hb7 BA6 BF6 BS6
              obtain ⟨a0, a1, a2, a3, a4⟩ := blk5 BA7
              have hy2 := blk_lt BA7
              have hmem : rd_T49 blks k3 ∈ blks := by
                simp only [rd_T49, List.getD_eq_getElem?_getD]
                rw [List.getElem?_eq_getElem (by omega)]
                simp
              have HC := Aside0.mk (containsFuncIns_any A5 c5 (rd_T49 blks k3).f0 (fun i => !insOk regs arrs shared i) 34 #[.pointer (some ⟨w.heap.size, 0, none⟩), .pointer (some ⟨w.heap.size + 1, 0, none⟩)] w7
                (Kd.C_below HR5.out HB7.out) hl5 (HMC.out _ hmem) callFunc_irValid1
                (fun x W _ hW => valid1_any w.heap.size (w.heap.size + 1) nm regs _ c arrs (some ad) blks.length c3 A2 c2 shared x W (blk_below BF7 hW) (blk_below BS7 hW) (Kd.C_below HR.out (below_step HB7.out hW)) hcp (by omega) (Kd.C_below HR2.out (below_step HB7.out hW)) hcp2 (by omega)))
              have BF8 := Aside0.mk BF7; have BS8 := Aside0.mk BS7
              clear BF7 BS7 BA7 hmem
              cases hh : endOk regs blks.length (rd_T49 blks k3).f1 (rd_T49 blks k3).f2 (rd_T49 blks k3).f3 (rd_T49 blks k3).f4 with
              | false =>
                have HH := Aside0.mk hh
                go_wp2
                go_ret
                exact ⟨retb (by rw [HSP.out _ _ _ rfl rfl (allTo_false hk0'' hlt3 (by simp [blkOk, HH.out]))]; simp), HB7.out⟩
              | true =>
                have HH := Aside0.mk hh
                go_wp2_with fail
                refine HC.out.mono ?_
                rintro e w10 ⟨rfl, hb10⟩
                have HB10 := Aside0.mk (below_step HB7.out hb10)
                have BF10 := Aside0.mk (blk_below BF8.out hb10)
                have BS10 := Aside0.mk (blk_below BS8.out hb10)
                clear hb10
                have HE := Aside0.mk (show (rd_T49 blks k3).f0.any (fun i => !insOk regs arrs shared i) = !(rd_T49 blks k3).f0.all (insOk regs arrs shared) from by simp [List.all_eq_not_any_not])
                cases hh2 : (rd_T49 blks k3).f0.any (fun i => !insOk regs arrs shared i) with
                | true =>
                  have HH2 := Aside0.mk hh2
                  go_wp2
                  go_ret
                  exact ⟨retb (by rw [HSP.out _ _ _ rfl rfl (allTo_false hk0'' hlt3 (by have h := HE.out; rw [HH2.out] at h; simp only [blkOk]; revert h; cases List.all (rd_T49 blks k3).f0 (insOk regs arrs shared) <;> simp))]; simp), HB10.out⟩
                | false =>
                  have HH2 := Aside0.mk hh2
                  go_wp2
                  go_roundw
                  case rel =>
                    refine ⟨k3 + 1, rfl, by omega, by omega, ⟨fun j h0 hlt => ?_⟩, HB10, BF10, BS10⟩
                    by_cases e : j < k3
                    · exact HN.out j h0 e
                    · obtain rfl : j = k3 := by omega
                      have h := HE.out
                      rw [HH2.out] at h
                      simp only [blkOk, HH.out]
                      revert h
                      cases List.all (rd_T49 blks j).f0 (insOk regs arrs shared) <;> simp
                  case measure => simp [intOf]; omega
            · go_wp2
              go_ret
              exact ⟨retb (by rw [HSP.out _ _ _ N1.out N2.out (allTo_true fun j h0 h1 => HN.out j h0 (by omega))]; rfl), HB.out⟩
set_option maxRecDepth 100000 in
set_option maxHeartbeats 1000000 in
theorem irValid_any (nm : ByteArray) (regs : Int) (A : Option Addr) (c : Nat) (arrs : List S44) (A3 : Option Addr) (c3 : Nat) (blks : List S49) (A2 : Option Addr) (c2 : Nat) (shared : List S44) (w : World)
    (hr : Kd.C k44 w A arrs.length arrs) (hcp : arrs.length ≤ c)
    (hr3 : Kd.C k49 w A3 blks.length blks) (hcp3 : blks.length ≤ c3) (hm3 : blks.length ≤ 9223372036854775806) (hmc : ∀ b ∈ blks, b.f0.length ≤ 9223372036854775806)
    (hr2 : Kd.C k44 w A2 shared.length shared) (hcp2 : shared.length ≤ c2) (hm2 : shared.length ≤ 9223372036854775806) :
    Calls Try.prog 13 #[.agg #[.string nm, .int .i64 regs, .slice A arrs.length c, .slice A3 blks.length c3], .slice A2 shared.length c2] w
      fun e w' => e = .returned (.bool (irOk regs arrs blks shared)) ∧ Below w.heap.size w w' := by
  by_cases q : 0 < blks.length ∧ 0 ≤ regs ∧ regs ≤ 10000 ∧ (arrs.length : Int) ≤ 4
  · exact irValid_go nm regs A c arrs A3 c3 blks A2 c2 shared w hr hcp hr3 hcp3 hm3 hmc hr2 hcp2 hm2 q.1 q.2.1 q.2.2.1 q.2.2.2
  · have HF : Aside0 (irOk regs arrs blks shared = false) := ⟨by
      unfold irOk
      simp only [Bool.and_eq_false_iff, decide_eq_false_iff_not]
      omega⟩
    have hu3 := Try.underlying25
    clear hr hr3 hr2
    by_cases q1 : 0 < blks.length
    · have q1b : ((blks.length : Int) == 0) = false := beq_eq_false_iff_ne.2 (by omega)
      by_cases q2 : regs < 0
      · clear q
        go_enter Try.func13, Try.ntmps13
        go_wp2
        go_ret
        exact ⟨retb HF.out.symm, ((Below.refl _ _).alloc (Nat.le_refl _) _).alloc (by simp) _⟩
      · by_cases q3 : 10000 < regs
        · clear q
          go_enter Try.func13, Try.ntmps13
          go_wp2
          go_ret
          exact ⟨retb HF.out.symm, ((Below.refl _ _).alloc (Nat.le_refl _) _).alloc (by simp) _⟩
        · have q4 : 4 < (arrs.length : Int) := by omega
          clear q
          go_enter Try.func13, Try.ntmps13
          go_wp2
          go_ret
          exact ⟨retb HF.out.symm, ((Below.refl _ _).alloc (Nat.le_refl _) _).alloc (by simp) _⟩
    · have q1b : ((blks.length : Int) == 0) = true := beq_iff_eq.2 (by omega)
      clear q q1
      go_enter Try.func13, Try.ntmps13
      go_wp2
      go_ret
      exact ⟨retb HF.out.symm, ((Below.refl _ _).alloc (Nat.le_refl _) _).alloc (by simp) _⟩
end Go.Proofs.Ytadaopfcgpfiiaa
namespace Go.Proofs.Ytadaopfcgpfiiaa
open Go.RowKit Go.Proofs.YtadaopfcgpfiiaaW.PrintWords Go.Proofs.YtadaopfcgpfiiaaW.PrintLast Go.Proofs.YtadaopfcgpfiiaaW.PrintMore PCg
set_option linter.unusedVariables false
set_option linter.unusedSimpArgs false
/-- the registers that an instruction reads -/
def usesL (i : S51) : List Int := (if (shp i.f0).x then [i.f2] else []) ++ (if (shp i.f0).y then [i.f3] else [])
/-- the register that it writes -/
def defL (i : S51) : List Int := if (shp i.f0).d then [i.f1] else []
theorem uses_f (i : S51) : ir_Uses.f 3 i.f0 i.f1 i.f2 i.f3 i.f4 i.f5 = some (usesL i) := by
  unfold ir_Uses.f usesL
  rw [shapeOf_f]
  cases (shp i.f0).x <;> cases (shp i.f0).y <;> simp
theorem defines_f (i : S51) : ir_Defines.f 3 i.f0 i.f1 i.f2 i.f3 i.f4 i.f5 = some (if (shp i.f0).d then i.f1 else 0, (shp i.f0).d) := by
  unfold ir_Defines.f
  rw [shapeOf_f]
  cases (shp i.f0).d <;> simp
theorem uses_any (i : S51) (w : World) :
    Calls Try.prog 103 #[.agg #[.int .u8 i.f0, .int .i64 i.f1, .int .i64 i.f2, .int .i64 i.f3, .int .i64 i.f4, .string i.f5]] w fun e w' => ∃ v, e = .returned v ∧ Kd.R (Kd.int .i64) 3 w' w.heap.size (fun _ => True) v (usesL i) ∧ Below w.heap.size w w' :=
  ir_Uses.calls 3 _ _ _ _ _ _ _ w (uses_f i)
theorem defines_any (i : S51) (w : World) :
    Calls Try.prog 69 #[.agg #[.int .u8 i.f0, .int .i64 i.f1, .int .i64 i.f2, .int .i64 i.f3, .int .i64 i.f4, .string i.f5]] w fun e w' => e = .returned (.tuple #[.int .i64 (if (shp i.f0).d then i.f1 else 0), .bool (shp i.f0).d]) ∧ Below w.heap.size w w' :=
  ir_Defines.calls 3 _ _ _ _ _ _ _ _ w (defines_f i)
theorem usesL_len (i : S51) : (usesL i).length ≤ 2 := by
  unfold usesL
  cases (shp i.f0).x <;> cases (shp i.f0).y <;> simp
def offReg (regs r : Int) : Bool := decide (r < 0) || decide (regs ≤ r)
set_option maxRecDepth 100000 in
set_option maxHeartbeats 400000 in
theorem lvInstruction1_any (b : Nat) (r regs : Int) (w : World) (hc : w.cell? ⟨b, 0, none⟩ = some (.int .i64 regs)) :
    Calls Try.prog 106 #[.int .i64 r, .pointer (some ⟨b, 0, none⟩)] w fun e w' => e = .returned (.bool (offReg regs r)) ∧ Below w.heap.size w w' := by
  have hlt := World.block_lt_of_cell? w _ hc
  by_cases h : r < 0
  · go_enter Try.func106, Try.ntmps106
    go_wp2
    go_ret
    exact ⟨retb (by simp [offReg]; omega), Below.refl _ _⟩
  · go_enter Try.func106, Try.ntmps106
    go_wp2
    go_ret
    exact ⟨retb (by simp [offReg]; omega), Below.refl _ _⟩
theorem callFunc_lvInstruction1 (args : Array Value) (W : World) : (callFunc 106 args).run Try.prog W = .ok (.enter 106 args) W := by kernel_rfl
/-- the instruction's operation is known, and its registers are in range -/
def insWf (regs : Int) (i : S51) : Prop := 1 ≤ i.f0 ∧ i.f0 ≤ 16 ∧ ∀ r ∈ usesL i ++ defL i, 0 ≤ r ∧ r < regs
set_option maxRecDepth 100000 in
set_option maxHeartbeats 1000000 in
theorem lvInstruction_any (i : S51) (regs : Int) (w : World) (h : insWf regs i) :
    Calls Try.prog 91 #[.agg #[.int .u8 i.f0, .int .i64 i.f1, .int .i64 i.f2, .int .i64 i.f3, .int .i64 i.f4, .string i.f5], .int .i64 regs] w fun e w' => e = .returned (.bool true) ∧ Below w.heap.size w w' := by
  obtain ⟨o1, o2, hu⟩ := h
  have HU := Aside0.mk hu
  clear hu
  have hu2 := Try.underlying51
  have hL := usesL_len i
  have HB0 : Aside0 (Below w.heap.size w ((w.alloc (.cells #[.int .u8 i.f0, .int .i64 i.f1, .int .i64 i.f2, .int .i64 i.f3, .int .i64 i.f4, .string i.f5] 51)).alloc (.cells #[.int .i64 regs] 3))) := ⟨((Below.refl _ _).alloc (Nat.le_refl _) _).alloc (by simp) _⟩
  have BI : Aside0 (((w.alloc (.cells #[.int .u8 i.f0, .int .i64 i.f1, .int .i64 i.f2, .int .i64 i.f3, .int .i64 i.f4, .string i.f5] 51)).alloc (.cells #[.int .i64 regs] 3)).heap[w.heap.size]? = some (.cells #[.int .u8 i.f0, .int .i64 i.f1, .int .i64 i.f2, .int .i64 i.f3, .int .i64 i.f4, .string i.f5] 51 (0, 0))) := ⟨blk_alloc (blk_new w _) _⟩
  have BR : Aside0 (((w.alloc (.cells #[.int .u8 i.f0, .int .i64 i.f1, .int .i64 i.f2, .int .i64 i.f3, .int .i64 i.f4, .string i.f5] 51)).alloc (.cells #[.int .i64 regs] 3)).heap[w.heap.size + 1]? = some (.cells #[.int .i64 regs] 3 (0, 0))) := ⟨heap_alloc_at _ _ _ (by simp)⟩
  go_enter Try.func91, Try.ntmps91
  go_wp2_with fail
  refine (uses_any i _).mono ?_
  rintro e w1 ⟨v1, rfl, hR1, hb1⟩
  have HB1 := Aside0.mk (below_step HB0.out hb1)
  have BI1 := blk_below BI.out hb1
  have BR1 := Aside0.mk (blk_below BR.out hb1)
  obtain ⟨A1, c1, rfl, hl1, hC1⟩ := Kd.R_reads hR1
  clear HB0 BI BR hb1 hR1
  have HC1 := Aside0.mk hC1; clear hC1
  have hz := blk_lt BI1
  obtain ⟨i0, i1, i2, i3, i4, i5⟩ := blk6 BI1
  clear BI1
  go_wp2_with fail
  refine (defines_any i _).mono ?_
  rintro e w2 ⟨rfl, hb2⟩
  have HB2 := Aside0.mk (below_step HB1.out hb2)
  have BR2 := Aside0.mk (blk_below BR1.out hb2)
  have HC2 := Aside0.mk (Kd.C_below HC1.out hb2)
  clear HB1 BR1 HC1 hb2 i0 i1 i2 i3 i4 i5 hz
  cases hd : (shp i.f0).d with
  | false =>
    have hz := blk_lt BR2.out
    have HN := Aside0.mk (show (usesL i).any (offReg regs) = false from by
      rw [List.any_eq_false]
      intro r hr
      have := HU.out r (List.mem_append_left _ hr)
      simp [offReg]; omega)
    go_wp2_with fail
    refine (containsFuncInt_any A1 c1 (usesL i) (offReg regs) 106 #[.pointer (some ⟨w.heap.size + 1, 0, none⟩)] w2 HC2.out hl1 (by omega) callFunc_lvInstruction1
      (fun x W _ hW => lvInstruction1_any (w.heap.size + 1) x regs W (blk1 (blk_below BR2.out hW)))).mono ?_
    rintro e w3 ⟨rfl, hb3⟩
    have HB3 := Aside0.mk (below_step HB2.out hb3)
    clear hb3
    go_wp2
    go_ret
    exact ⟨retb (by rw [HN.out]; rfl), HB3.out⟩
  | true =>
    have HN := Aside0.mk (show (usesL i ++ [i.f1]).any (offReg regs) = false from by
      rw [List.any_eq_false]
      intro r hr
      have := HU.out r (by unfold defL; rw [hd]; exact hr)
      simp [offReg]; omega)
    have HD := Aside0.mk hd
    clear hd
    go_wp2_with fail
    refine (cloneInt_any A1 c1 (usesL i) _ HC2.out hl1 (by omega)).mono ?_
    rintro e w3 ⟨v3, rfl, hR3, hb3⟩
    have HO3 := Aside0.mk hR3
    have HB3 := Aside0.mk hb3
    clear hR3 hb3
    have hz3 := HB3.out.size
    obtain ⟨us, hus⟩ : ∃ us : List Int, usesL i ++ [i.f1] = us := ⟨_, rfl⟩
    have hlen : us.length ≤ 9223372036854775806 := by rw [← hus, List.length_append]; simp; omega
    have HUS := Aside0.mk hus; clear hus
    rw [HUS.out] at HN
    go_wp2_with (at_builtin; refine Kd.R_append (Kd.int .i64) (w0 := w2) w2.heap.size rfl (.tmp 25) (.tmp 27) 37 3 (.int .i64 0) 8 rfl Try.underlying37 info3 rfl (by decide) (by decide) v3 (usesL i) i.f1 [.int .i64 i.f1] (fun _ => True) (fun _ => False) rfl rfl ?aP (fun _ hk => hk.elim) (fun _ _ => trivial) ?aO ?aB ?aS ?aL ?_; (case aP => exact rfl); (case aO => exact HO3.out); (case aB => exact HB3.out); (case aS => exact hz3); (case aL => omega); intro v4 w4 hR4 hB4 hg4 hat4; rw [HUS.out] at hR4; have HO4 := Aside0.mk hR4; have HB4 := Aside0.mk hB4; clear hR4 hB4 hg4 hat4 HB3 HO3 hz3; obtain ⟨A4, c4, hv4, hl4, hC4⟩ := Kd.R_reads HO4.out; subst hv4; have HC4 := Aside0.mk hC4; clear hC4 HO4)
    have BR4 := Aside0.mk (blk_below BR2.out HB4.out)
    have HB5 := Aside0.mk (below_step HB2.out HB4.out)
    clear BR2 HB4 HB2
    have HF := Aside0.mk (containsFuncInt_any A4 c4 us (offReg regs) 106 #[.pointer (some ⟨w.heap.size + 1, 0, none⟩)] w4 HC4.out hl4 hlen callFunc_lvInstruction1
      (fun x W _ hW => lvInstruction1_any (w.heap.size + 1) x regs W (blk1 (blk_below BR4.out hW))))
    clear hlen
    refine HF.out.mono ?_
    rintro e w5 ⟨rfl, hb5⟩
    have HB6 := Aside0.mk (below_step HB5.out hb5)
    clear hb5
    go_wp2
    go_ret
    exact ⟨retb (by rw [HN.out]; rfl), HB6.out⟩
end Go.Proofs.Ytadaopfcgpfiiaa
namespace Go.Proofs.Ytadaopfcgpfiiaa
open Go.RowKit Go.Proofs.YtadaopfcgpfiiaaW.PrintWords Go.Proofs.YtadaopfcgpfiiaaW.PrintLast Go.Proofs.YtadaopfcgpfiiaaW.PrintMore PCg
set_option linter.unusedVariables false
set_option linter.unusedSimpArgs false
def succL (b : S49) : List Int := if b.f1 = 1 ∨ (b.f1 = 2 ∧ b.f3 = b.f4) then [b.f3] else if b.f1 = 2 then [b.f3, b.f4] else []
theorem succ_f (b : S49) : ir_Succ.f 3 b.f0 b.f1 b.f2 b.f3 b.f4 = some (succL b) := by
  unfold ir_Succ.f succL
  by_cases h1 : b.f1 = 1
  · simp [h1, ir_Succ.j0]
  · by_cases h2 : b.f1 = 2
    · by_cases h3 : b.f3 = b.f4
      · simp [h2, h3, ir_Succ.j0]
      · simp [h2, h3, ir_Succ.j0]
    · simp [h1, h2, ir_Succ.j0]
theorem succL_len (b : S49) : (succL b).length ≤ 2 := by
  unfold succL
  split
  · simp
  · split <;> simp
/-- a block is well-formed in a function with so many registers and blocks -/
structure BlkWf (regs nb : Int) (b : S49) : Prop where
  k1 : 1 ≤ b.f1
  k3 : b.f1 ≤ 3
  x : b.f1 = 2 → 0 ≤ b.f2 ∧ b.f2 < regs
  succ : ∀ t ∈ succL b, 0 ≤ t ∧ t < nb
  ins : ∀ i ∈ b.f0, insWf regs i
  len : b.f0.length ≤ 9223372036854775806
theorem insWf_of_ok {regs : Int} {arrs shared : List S44} {i : S51} (h : insOk regs arrs shared i = true) : insWf regs i := by
  have hop : 1 ≤ i.f0 ∧ i.f0 ≤ 16 := by
    rcases Decidable.em (1 ≤ i.f0 ∧ i.f0 ≤ 16) with h' | h'
    · exact h'
    · exfalso
      have : (shp i.f0).ok = false := by
        unfold shp
        simp [show i.f0 ≠ 1 from by omega, show i.f0 ≠ 2 from by omega, show i.f0 ≠ 3 from by omega, show i.f0 ≠ 4 from by omega, show i.f0 ≠ 5 from by omega, show i.f0 ≠ 6 from by omega, show i.f0 ≠ 7 from by omega, show i.f0 ≠ 8 from by omega, show i.f0 ≠ 9 from by omega, show i.f0 ≠ 10 from by omega, show i.f0 ≠ 11 from by omega, show i.f0 ≠ 12 from by omega, show i.f0 ≠ 13 from by omega, show i.f0 ≠ 14 from by omega, show i.f0 ≠ 15 from by omega, show i.f0 ≠ 16 from by omega]
      simp [insOk, this] at h
  refine ⟨hop.1, hop.2, ?_⟩
  simp only [insOk, Bool.and_eq_true, decide_eq_true_eq] at h
  obtain ⟨⟨⟨⟨⟨⟨_, hd⟩, hy⟩, _⟩, _⟩, hx⟩, _⟩ := h
  have hx' : (shp i.f0).x = true → regOk true i.f2 regs = true := by
    intro hxx
    unfold xOk at hx
    by_cases h16 : i.f0 = 16
    · rw [h16] at hxx
      simp [shp] at hxx
    · rw [if_neg h16, hxx] at hx
      exact hx
  intro r hr
  have key : ∀ q : Int, regOk true q regs = true → 0 ≤ q ∧ q < regs := fun q hq => by simpa [regOk] using hq
  simp only [usesL, defL, List.mem_append] at hr
  rcases hr with (hr | hr) | hr
  · cases hq : (shp i.f0).x <;> simp [hq] at hr
    subst hr; exact key _ (hx' hq)
  · cases hq : (shp i.f0).y <;> simp [hq] at hr
    subst hr; rw [hq] at hy; exact key _ hy
  · cases hq : (shp i.f0).d <;> simp [hq] at hr
    subst hr; rw [hq] at hd; exact key _ hd
theorem blkWf_of_ok {regs nb : Int} {arrs shared : List S44} {b : S49} (h : blkOk regs nb arrs shared b = true) (hl : b.f0.length ≤ 9223372036854775806) : BlkWf regs nb b := by
  simp only [blkOk, Bool.and_eq_true] at h
  obtain ⟨he, hi⟩ := h
  rw [List.all_eq_true] at hi
  have hk : b.f1 = 1 ∨ b.f1 = 2 ∨ b.f1 = 3 := by
    unfold endOk at he
    by_cases h1 : b.f1 = 1
    · exact .inl h1
    · by_cases h2 : b.f1 = 2
      · exact .inr (.inl h2)
      · rw [if_neg h1, if_neg h2] at he
        simp at he
        exact .inr (.inr he.1.1.1)
  refine ⟨by omega, by omega, ?_, ?_, fun i hi' => insWf_of_ok (hi i hi'), hl⟩
  · intro h2
    simp [endOk, h2] at he
    omega
  · intro t ht
    rcases hk with h1 | h1 | h1
    · simp [endOk, h1, tgtOk] at he
      simp [succL, h1] at ht
      omega
    · simp [endOk, h1, tgtOk] at he
      by_cases h3 : b.f3 = b.f4
      · simp [succL, h1, h3] at ht
        omega
      · simp [succL, h1, h3] at ht
        omega
    · simp [succL, h1] at ht
end Go.Proofs.Ytadaopfcgpfiiaa
namespace Go.Proofs.Ytadaopfcgpfiiaa
open Go.RowKit Go.Proofs.YtadaopfcgpfiiaaW.PrintWords Go.Proofs.YtadaopfcgpfiiaaW.PrintLast Go.Proofs.YtadaopfcgpfiiaaW.PrintMore PCg
set_option linter.unusedVariables false
set_option linter.unusedSimpArgs false
theorem succ_any (A : Option Addr) (c : Nat) (b : S49) (w : World) (hr : Kd.C k51 w A b.f0.length b.f0) (hcp : b.f0.length ≤ c) :
    Calls Try.prog 90 #[.agg #[.slice A b.f0.length c, .int .u8 b.f1, .int .i64 b.f2, .int .i64 b.f3, .int .i64 b.f4]] w fun e w' => ∃ v, e = .returned v ∧ Kd.R (Kd.int .i64) 3 w' w.heap.size (fun _ => True) v (succL b) ∧ Below w.heap.size w w' :=
  ir_Succ.calls 3 A c _ _ _ _ _ _ w hr hcp (succ_f b)
theorem mem_rd {α : Type} {xs : List α} {z : α} {i : Int} (h0 : 0 ≤ i) (h1 : i < xs.length) : xs.getD i.toNat z ∈ xs := by
  rw [List.getD_eq_getElem?_getD, List.getElem?_eq_getElem (by omega)]
  simp
set_option maxRecDepth 100000 in
set_option maxHeartbeats 2000000 in
theorem wellFormed_any (nm : ByteArray) (regs : Int) (A : Option Addr) (n c : Nat) (A3 : Option Addr) (c3 : Nat) (blks : List S49) (w : World)
    (hr3 : Kd.C k49 w A3 blks.length blks) (hcp3 : blks.length ≤ c3) (hm3 : blks.length ≤ 9223372036854775806)
    (q1 : 0 < blks.length) (q2 : 0 ≤ regs) (q3 : regs ≤ 10000) (hwf : ∀ b ∈ blks, BlkWf regs blks.length b) :
    Calls Try.prog 65 #[.agg #[.string nm, .int .i64 regs, .slice A n c, .slice A3 blks.length c3]] w fun e w' => e = .returned (.bool true) ∧ Below w.heap.size w w' := by
  have HR3 := Aside0.mk hr3; clear hr3
  have HWF := Aside0.mk hwf; clear hwf
  have hu := Try.underlying51
  have hu2 := Try.underlying49
  have hu3 := Try.underlying25
  have q1b : ((blks.length : Int) == 0) = false := beq_eq_false_iff_ne.2 (by omega)
  have HBF : Aside0 (Below w.heap.size w (w.alloc (.cells #[.string nm, .int .i64 regs, .slice A n c, .slice A3 blks.length c3] 25))) := ⟨(Below.refl _ _).alloc (Nat.le_refl _) _⟩
  go_enter Try.func65, Try.ntmps65
  go_wp2_with fail
  go_loopw [26] (fun i wr => ∃ k : Int, i = .int .i64 k ∧ 0 ≤ k ∧ k ≤ blks.length ∧ Aside0 (Below w.heap.size w wr) ∧
      Aside0 (wr.heap[w.heap.size]? = some (.cells #[.string nm, .int .i64 regs, .slice A n c, .slice A3 blks.length c3] 25 (0, 0)))) (fun i wr => blks.length - (intOf i).toNat)
  case atStart => exact ⟨0, rfl, Int.le_refl _, by omega, HBF, ⟨blk_new w _⟩⟩
  case round =>
    obtain ⟨k, rfl, hk0, hk, HB, BF⟩ := hrel
    by_cases hlt : k < blks.length
    · obtain ⟨ad, A5, c5, hA, h0, h1, h2, h3, h4, hl5, hr5⟩ := at_T49 HR3.out k hk0 hlt
      cases hA
      have hb : BlkWf regs blks.length (rd_T49 blks k) := HWF.out _ (mem_rd hk0 hlt)
      replace h0 := (HB.out.cell (World.block_lt_of_cell? w _ h0)).trans h0
      replace h1 := (HB.out.cell (World.block_lt_of_cell? w _ h1)).trans h1
      replace h2 := (HB.out.cell (World.block_lt_of_cell? w _ h2)).trans h2
      replace h3 := (HB.out.cell (World.block_lt_of_cell? w _ h3)).trans h3
      replace h4 := (HB.out.cell (World.block_lt_of_cell? w _ h4)).trans h4
      have HR5 := Aside0.mk hr5; clear hr5
      have p110 := eq_true hk0
      have q110 := eq_true hlt
      generalize rd_T49 blks k = b at *
      obtain ⟨o1, o3, hx, hs, hi, hil⟩ := hb
      have HX := Aside0.mk hx; have HS := Aside0.mk hs; have HI := Aside0.mk hi
      clear hx hs hi
      obtain ⟨f0, f1, f2, f3⟩ := blk4 BF.out
      have hz0 := blk_lt BF.out
      have HP : Aside0 (Below w.heap.size w (wr.alloc (.cells #[.slice A5 b.f0.length c5, .int .u8 b.f1, .int .i64 b.f2, .int .i64 b.f3, .int .i64 b.f4] 49))) := ⟨below_alloc HB.out _⟩
      have BA6 := blk_new wr (.cells #[.slice A5 b.f0.length c5, .int .u8 b.f1, .int .i64 b.f2, .int .i64 b.f3, .int .i64 b.f4] 49)
      have BF6 := blk_alloc BF.out (.cells #[.slice A5 b.f0.length c5, .int .u8 b.f1, .int .i64 b.f2, .int .i64 b.f3, .int .i64 b.f4] 49)
      have hcase : ((b.f1 == 2) = true ∧ 0 ≤ b.f2 ∧ b.f2 < regs) ∨ (b.f1 == 2) = false := by
        by_cases hk2 : b.f1 = 2
        · exact .inl ⟨beq_iff_eq.2 hk2, HX.out hk2⟩
        · exact .inr (beq_eq_false_iff_ne.2 hk2)
      clear HX
      have HBA := Aside0.mk BA6; have HBF6 := Aside0.mk BF6
      clear BA6 BF6
      rcases hcase with ⟨g1, g2, g3⟩ | g1
      all_goals
        go_wp2_with fail
        refine (succ_any A5 c5 b _ (Kd.C_below HR5.out HP.out) hl5).mono ?_
        rintro e w1 ⟨v1, rfl, hR1, hb1⟩
        have HB1 := Aside0.mk (below_step HP.out hb1)
        have BA1 := blk_below HBA.out hb1
        have BF1 := blk_below HBF6.out hb1
        clear hb1 h0 h1 h2 h3 h4 f0 f1 f2 f3 hz0 g1
        obtain ⟨a0, a1, a2, a3, a4⟩ := blk5 BA1
        obtain ⟨f0, f1, f2, f3⟩ := blk4 BF1
        have HBA1 := Aside0.mk BA1; have HBF1 := Aside0.mk BF1
        clear BA1 BF1
        obtain ⟨A7, c7, hv7, hl7, hC7⟩ := Kd.R_reads hR1
        subst hv7
        have HC7 := Aside0.mk hC7
        clear hR1 hC7
        have hL := succL_len b
        go_wp2_with fail
        go_loop [58] (fun i => ∃ k2 : Int, i = .int .i64 k2 ∧ 0 ≤ k2 ∧ k2 ≤ (succL b).length) (fun i => (succL b).length - (intOf i).toNat)
        case atStart => exact ⟨0, rfl, Int.le_refl _, by omega⟩
        case round =>
          obtain ⟨k2, rfl, hk20, hk2⟩ := hrel
          by_cases hlt2 : k2 < (succL b).length
          · obtain ⟨ad7, hA7, e0⟩ := Kd.at_int HC7.out k2 hk20 hlt2
            cases hA7
            have hr := HS.out (rd (succL b) k2) (mem_rd hk20 hlt2)
            have r1 : 0 ≤ rd (succL b) k2 := hr.1
            have r2 : rd (succL b) k2 < blks.length := hr.2
            clear hr
            have p2 := eq_true hk20
            have q2' := eq_true hlt2
            go_wp2
            go_round
            case rel => exact ⟨k2 + 1, rfl, by omega, by omega⟩
            case measure => simp [intOf]; omega
          · clear HS HC7
            go_wp2_with fail
            go_loopw [75] (fun i wr2 => ∃ k3 : Int, i = .int .i64 k3 ∧ 0 ≤ k3 ∧ k3 ≤ b.f0.length ∧ Aside0 (Below w1.heap.size w1 wr2)) (fun i wr2 => b.f0.length - (intOf i).toNat)
            case atStart => exact ⟨0, rfl, Int.le_refl _, by omega, ⟨Below.refl _ _⟩⟩
            case round =>
              obtain ⟨k3, rfl, hk30, hk3, HB3⟩ := hrel
              clear a0 a1 a2 a3 a4 f0 f1 f2 f3
              obtain ⟨f0, f1, f2, f3⟩ := blk4 (blk_below HBF1.out HB3.out)
              have hz3 := blk_lt (blk_below HBF1.out HB3.out)
              by_cases hlt3 : k3 < b.f0.length
              · obtain ⟨ad8, hA8, i0, i1, i2, i3, i4, i5⟩ := at_T51 HR5.out k3 hk30 hlt3
                cases hA8
                replace i0 := ((below_step HB1.out HB3.out).cell (World.block_lt_of_cell? w _ i0)).trans i0
                replace i1 := ((below_step HB1.out HB3.out).cell (World.block_lt_of_cell? w _ i1)).trans i1
                replace i2 := ((below_step HB1.out HB3.out).cell (World.block_lt_of_cell? w _ i2)).trans i2
                replace i3 := ((below_step HB1.out HB3.out).cell (World.block_lt_of_cell? w _ i3)).trans i3
                replace i4 := ((below_step HB1.out HB3.out).cell (World.block_lt_of_cell? w _ i4)).trans i4
                replace i5 := ((below_step HB1.out HB3.out).cell (World.block_lt_of_cell? w _ i5)).trans i5
                have HW := Aside0.mk (HI.out (rd_T51 b.f0 k3) (mem_rd hk30 hlt3))
                have p3 := eq_true hk30
                have q3' := eq_true hlt3
                go_wp2_with fail
                refine (lvInstruction_any (rd_T51 b.f0 k3) regs _ HW.out).mono ?_
                rintro e w4 ⟨rfl, hb4⟩
                have HB4 := Aside0.mk (below_step (below_alloc HB3.out _) hb4)
                clear hb4 i0 i1 i2 i3 i4 i5 f0 f1 f2 f3 hz3
                go_wp2
                go_roundw
                case rel => exact ⟨k3 + 1, rfl, by omega, by omega, HB4⟩
                case measure => simp [intOf]; omega
              · go_wp2
                go_roundw
                case rel => exact ⟨k + 1, rfl, by omega, by omega, ⟨below_step HB1.out HB3.out⟩, ⟨blk_below HBF1.out HB3.out⟩⟩
                case measure => simp [intOf]; omega
    · go_wp2
      go_ret
      exact ⟨rfl, HB.out⟩
end Go.Proofs.Ytadaopfcgpfiiaa
