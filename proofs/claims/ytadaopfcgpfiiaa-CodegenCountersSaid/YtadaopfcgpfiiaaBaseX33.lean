/- Lemmas: what the theorem of the claim's last text needs, joined by a program out of the seat's texts J2, J3, K0, M2, L0. -/
import Derived.Test.YtadaopfcgpfiiaaBaseX30
import Derived.Test.YtadaopfcgpfiiaaBaseX31
import Derived.Test.YtadaopfcgpfiiaaBaseX26
import Derived.Test.YtadaopfcgpfiiaaBaseX13
import Derived.Test.YtadaopfcgpfiiaaBaseX14
import Derived.Test.YtadaopfcgpfiiaaBaseX32
import Derived.Laws.IdiomStrings
namespace Go.Proofs.Ytadaopfcgpfiiaa
open Go.RowKit Go.Proofs.YtadaopfcgpfiiaaW.PrintWords Go.Proofs.YtadaopfcgpfiiaaW.PrintLast Go.Proofs.YtadaopfcgpfiiaaW.PrintMore PCg
set_option linter.unusedVariables false
set_option linter.unusedSimpArgs false
attribute [local go_sem] Oper.semAt_some
/-- visit's loop over the blocks -/
def VisRel (L : Nat) (w0 w w2 : World) (gs n : Nat) (lab : Nat → Nat) (vs : Nat → Value) (wr : World) (ds : List Deferred) : Prop :=
  ∃ xs, SetsAt L w0 wr gs n (labN lab w.heap.size 24) vs xs ∧ Kept w2 wr (fun k => labN lab w.heap.size 24 k % 2 = 1) ∧ Marks ds (labN lab w.heap.size 24) w.heap.size wr
set_option maxRecDepth 100000 in
set_option maxHeartbeats 1000000 in
theorem visit_any (L : Nat) (w0 : World) (gs n : Nat) (lab : Nat → Nat) (vs : Nat → Value) (xs : Nat → List Int) (bs : Nat) (nm : ByteArray) (regs : Int) (A : Option Addr) (na c : Nat) (A3 : Option Addr) (c3 : Nat) (blks : List S49) (w : World)
    (hS : SetsAt L w0 w gs n lab vs xs) (hbs : w.heap[bs]? = some (.cells #[.slice (some ⟨gs, 0, none⟩) n n] 157 (0, 0))) (hlb : lab bs % 2 = 0) (hnr : (n : Int) = regs) (hL : L = ((regs + 63) / 64).toNat)
    (hr3 : Kd.C k49 w0 A3 blks.length blks) (hcp3 : blks.length ≤ c3) (hn : blks.length ≤ 10000) (q2 : 0 ≤ regs) (q3 : regs ≤ 10000) (hwf : ∀ b ∈ blks, BlkWf regs blks.length b) (hlen : ∀ b ∈ blks, b.f0.length ≤ 1000000) :
    Calls Try.prog 67 #[.agg #[.string nm, .int .i64 regs, .slice A na c, .slice A3 blks.length c3], .func (.func 68) #[] #[.pointer (some ⟨bs, 0, none⟩)]] w (ActPost L w0 gs n lab vs w) := by
  have HS := Aside0.mk hS; have HBS := Aside0.mk hbs; have HR3 := Aside0.mk hr3; have HWF := Aside0.mk hwf; have HLEN := Aside0.mk hlen; have HLL := Aside0.mk hL; have HNR := Aside0.mk hnr
  clear hS hbs hr3 hwf hlen hL hnr
  have hu := Try.underlying51
  have hu2 := Try.underlying49
  have hu3 := Try.underlying25
  obtain ⟨w1, hw1⟩ : ∃ w1, (w.alloc (.cells #[.string nm, .int .i64 regs, .slice A na c, .slice A3 blks.length c3] 25)).alloc (.cells #[.func (.func 68) #[] #[.pointer (some ⟨bs, 0, none⟩)]] 164) = w1 := ⟨_, rfl⟩
  have HB1 : Aside0 (Below w.heap.size w w1) := ⟨by rw [← hw1]; exact below_alloc (below_alloc (Below.refl _ _) _) _⟩
  have HF1 : Aside0 (w1.heap[w.heap.size]? = some (.cells #[.string nm, .int .i64 regs, .slice A na c, .slice A3 blks.length c3] 25 (0, 0))) := ⟨by rw [← hw1]; exact blk_alloc (blk_new _ _) _⟩
  have HA1 : Aside0 (w1.heap[w.heap.size + 1]? = some (.cells #[.func (.func 68) #[] #[.pointer (some ⟨bs, 0, none⟩)]] 164 (0, 0))) := ⟨by rw [← hw1]; exact heap_alloc_at _ _ _ (by simp)⟩
  have HC1 := Aside0.mk (Kd.C_below HR3.out (below_step HS.out.below HB1.out))
  obtain ⟨f0, f1, f2, f3⟩ := blk4 HF1.out
  refine (callsIn_wide (n := 5)).1 (callsIn_of_wp_marks Try.func67 rfl trivial (wpIn_wide.2 ?_) rfl)
  simp only [Try.ntmps67, List.size_toArray, List.length_cons, List.length_nil, Nat.reduceAdd, Nat.reduceSub, Array.replicate_succ, Array.replicate_zero, List.push_toArray, List.append_toArray, List.nil_append, List.cons_append]
  go_wp2_with fail
  refine (solve_any nm regs A na c A3 c3 blks w1 HC1.out hcp3 hn q2 q3 HWF.out HLEN.out).mono ?_
  rintro e w2 ⟨gi, go, vo, outs, rfl, hro, hgo, hrows, hb2⟩
  have hbw2 : Below w.heap.size w w2 := below_step HB1.out hb2
  have HS2 := Aside0.mk ((HS.out.relab (lab' := labN lab w.heap.size 24) (fun k hk _ => labN_lt hk)).after hbw2)
  have HF2 := Aside0.mk (blk_below HF1.out hb2)
  have HA2 := Aside0.mk (blk_below HA1.out hb2)
  have HB2 := Aside0.mk hbw2
  have HBS2 := Aside0.mk (blk_below HBS.out hbw2)
  have HRO := Aside0.mk hro; have HROWS := Aside0.mk hrows; have HGO := Aside0.mk (Nat.le_trans HB1.out.size hgo)
  clear f0 f1 f2 f3 hb2 hbw2 hro hrows hgo hw1
  obtain ⟨f0, f1, f2, f3⟩ := blk4 HF2.out
  go_wp2_with fail
  refine wp_loop_ghost_k (fun m a' w' => ∃ (u6 u7 u8 u9 u10 u19 u20 u21 u22 u23 u24 u25 u26 u27 u28 u29 u30 u31 u32 u33 u34 u35 u36 u37 u38 u39 u40 u41 u42 u43 u44 : Value) (ds : List Deferred), (∃ k : Int, u19 = .int .i64 k ∧ 0 ≤ k ∧ k ≤ blks.length ∧ m = blks.length - k.toNat ∧ Aside0 (VisRel L w0 w w2 gs n lab vs w' ds)) ∧ a' = { tmps := #[.agg #[.string nm, .int .i64 regs, .slice A na c, .slice A3 blks.length c3], .func (.func 68) #[] #[.pointer (some ⟨bs, 0, none⟩)], .pointer (some ⟨w.heap.size, 0, none⟩), .pointer (some ⟨w.heap.size + 1, 0, none⟩), .slice (some ⟨gi, 0, none⟩) blks.length blks.length, .slice (some ⟨go, 0, none⟩) blks.length blks.length, u6, u7, u8, u9, u10, .tuple #[.slice (some ⟨gi, 0, none⟩) blks.length blks.length, .slice (some ⟨go, 0, none⟩) blks.length blks.length], .agg #[.string nm, .int .i64 regs, .slice A na c, .slice A3 blks.length c3], .tuple #[.slice (some ⟨gi, 0, none⟩) blks.length blks.length, .slice (some ⟨go, 0, none⟩) blks.length blks.length], .slice (some ⟨gi, 0, none⟩) blks.length blks.length, .slice (some ⟨go, 0, none⟩) blks.length blks.length, .pointer (some ⟨w.heap.size, 3, none⟩), .slice A3 blks.length c3, .int .i64 (blks.length : Int), u19, u20, u21, u22, u23, u24, u25, u26, u27, u28, u29, u30, u31, u32, u33, u34, u35, u36, u37, u38, u39, u40, u41, u42, u43, u44], defers := ds }) blks.length ?_ ?_
  · (repeat apply Exists.intro)
    refine ⟨⟨0, rfl, Int.le_refl _, by omega, by simp, ⟨xs, HS2.out, Kept.refl _ _, marks_nil _ _ _⟩⟩, rfl⟩
  · intro gk a wr hinv
    obtain ⟨u6, hinv⟩ := hinv
    obtain ⟨u7, hinv⟩ := hinv
    obtain ⟨u8, hinv⟩ := hinv
    obtain ⟨u9, hinv⟩ := hinv
    obtain ⟨u10, hinv⟩ := hinv
    obtain ⟨u19, hinv⟩ := hinv
    obtain ⟨u20, hinv⟩ := hinv
    obtain ⟨u21, hinv⟩ := hinv
    obtain ⟨u22, hinv⟩ := hinv
    obtain ⟨u23, hinv⟩ := hinv
    obtain ⟨u24, hinv⟩ := hinv
    obtain ⟨u25, hinv⟩ := hinv
    obtain ⟨u26, hinv⟩ := hinv
    obtain ⟨u27, hinv⟩ := hinv
    obtain ⟨u28, hinv⟩ := hinv
    obtain ⟨u29, hinv⟩ := hinv
    obtain ⟨u30, hinv⟩ := hinv
    obtain ⟨u31, hinv⟩ := hinv
    obtain ⟨u32, hinv⟩ := hinv
    obtain ⟨u33, hinv⟩ := hinv
    obtain ⟨u34, hinv⟩ := hinv
    obtain ⟨u35, hinv⟩ := hinv
    obtain ⟨u36, hinv⟩ := hinv
    obtain ⟨u37, hinv⟩ := hinv
    obtain ⟨u38, hinv⟩ := hinv
    obtain ⟨u39, hinv⟩ := hinv
    obtain ⟨u40, hinv⟩ := hinv
    obtain ⟨u41, hinv⟩ := hinv
    obtain ⟨u42, hinv⟩ := hinv
    obtain ⟨u43, hinv⟩ := hinv
    obtain ⟨u44, hinv⟩ := hinv
    obtain ⟨ds, hinv⟩ := hinv
    obtain ⟨hrel, ha⟩ := hinv
    subst ha
    try dsimp only
    intro J K hJ hK
    obtain ⟨k, rfl, hk0, hk, hgk, ⟨xs1, hS1, hK1, hM1⟩⟩ := hrel
    have HS1 := Aside0.mk hS1; have HK1 := Aside0.mk hK1; have HM1 := Aside0.mk hM1; have HGK := Aside0.mk hgk
    clear hS1 hK1 hM1 hgk f0 f1 f2 f3
    have hlev : ∀ q, w.heap.size ≤ q → labN lab w.heap.size 24 q % 2 = 0 := fun q hq => by rw [labN_ge hq]
    have HLEV := Aside0.mk hlev; clear hlev
    by_cases hlt : k < blks.length
    · have p1 := eq_true hk0
      have q1 := eq_true hlt
      have HFr := Aside0.mk (blk_kept HF2.out HK1.out (by have := HLEV.out w.heap.size (Nat.le_refl _); omega))
      obtain ⟨f0, f1, f2, f3⟩ := blk4 HFr.out
      have HWr := Aside0.mk HS1.out.below
      obtain ⟨adb, A5, c5, hA, h1, h2, h3, h4, h5, hl5, hr5⟩ := at_T49 HR3.out k hk0 hlt
      cases hA
      have HR5 := Aside0.mk hr5; clear hr5
      have HBW : Aside0 (BlkWf regs blks.length (rd_T49 blks k)) := ⟨HWF.out _ (mem_rd (z := z49) hk0 hlt)⟩
      replace h1 := (HWr.out.cell (World.block_lt_of_cell? w0 _ h1)).trans h1
      replace h2 := (HWr.out.cell (World.block_lt_of_cell? w0 _ h2)).trans h2
      replace h3 := (HWr.out.cell (World.block_lt_of_cell? w0 _ h3)).trans h3
      replace h4 := (HWr.out.cell (World.block_lt_of_cell? w0 _ h4)).trans h4
      replace h5 := (HWr.out.cell (World.block_lt_of_cell? w0 _ h5)).trans h5
      go_upto_region 5 with (fail)
      obtain ⟨W4, hW4⟩ : ∃ W4, (wr.alloc (.cells #[.int .i64 k] 3)).alloc (.cells #[.slice A5 (rd_T49 blks k).f0.length c5, .int .u8 (rd_T49 blks k).f1, .int .i64 (rd_T49 blks k).f2, .int .i64 (rd_T49 blks k).f3, .int .i64 (rd_T49 blks k).f4] 49) = W4 := ⟨_, rfl⟩
      have hb4 : Below wr.heap.size wr W4 := by rw [← hW4]; exact below_alloc (below_alloc (Below.refl _ _) _) _
      have hbn : W4.heap[wr.heap.size]? = some (.cells #[.int .i64 k] 3 (0, 0)) := by rw [← hW4]; exact blk_alloc (blk_new _ _) _
      have hbb : W4.heap[wr.heap.size + 1]? = some (.cells #[.slice A5 (rd_T49 blks k).f0.length c5, .int .u8 (rd_T49 blks k).f1, .int .i64 (rd_T49 blks k).f2, .int .i64 (rd_T49 blks k).f3, .int .i64 (rd_T49 blks k).f4] 49 (0, 0)) := by rw [← hW4]; exact heap_alloc_at _ _ _ (by simp)
      have HS4 := Aside0.mk (HS1.out.after hb4)
      have HK4 := Aside0.mk (HK1.out.below hb4)
      have HM4 := Aside0.mk (HM1.out.below hb4)
      have HBN := Aside0.mk hbn; have HBB := Aside0.mk hbb
      have HKW : Aside0 (∀ q, q < w2.heap.size → w.heap.size ≤ q → W4.heap[q]? = w2.heap[q]?) := ⟨fun q h1 h2 => HK4.out.2 q h1 (by have := HLEV.out q h2; omega)⟩
      have n0 := blk1 hbn
      obtain ⟨b0, b1, b2, b3, b4⟩ := blk5 hbb
      obtain ⟨kn, hkn⟩ : ∃ kn : Nat, k.toNat = kn := ⟨_, rfl⟩
      have hkl : kn < blks.length := by omega
      obtain ⟨hRo, hlo, hco, hbo⟩ := HROWS.out kn hkl
      obtain ⟨Ao, co2, hvo⟩ := Kd.R_slice hRo
      have HRo4 : Aside0 (kU.R 191 W4 w.heap.size (fun q => w.heap.size ≤ q) (vo kn) (outs kn)) := ⟨Kd.R_lower (Kd.R_mono (Kd.R_move (Kd.R_bound hRo) (fun q hq => HKW.out q hq.2.2.1 (Nat.le_trans HB1.out.size hq.2.1))) (fun q hq => Nat.le_trans HB1.out.size hq.2.1)) HB1.out.size⟩
      have hro4 : RowAt W4 go blks.length 159 vo := HRO.out.step (fun cells hc => HKW.out go (blk_lt hc) HGO.out)
      have co : W4.cell? ⟨go, k.toNat, none⟩ = some (.slice Ao (outs kn).length co2) := by rw [hkn, ← hvo]; exact hro4.cell hkl
      have HCO : Aside0 (Kd.C kU W4 Ao (outs kn).length (outs kn) ∧ (outs kn).length ≤ co2) := ⟨by have h := Kd.R_reads' (hvo ▸ HRo4.out); exact ⟨h.2.2, h.2.1⟩⟩
      have hco2 := HCO.out.2
      have HLO := Aside0.mk hlo; have HCAN := Aside0.mk hco; have HBND := Aside0.mk hbo
      have hol : (outs kn).length ≤ 1000000 := by rw [hlo]; omega
      have HXX : Aside0 ((rd_T49 blks k).f1 = 2 → 0 ≤ (rd_T49 blks k).f2 ∧ (rd_T49 blks k).f2 < 64 * (outs kn).length) := ⟨fun h => by have := HBW.out.x h; rw [HLO.out]; omega⟩
      have HKN := Aside0.mk hkn
      clear hRo hlo hco hbo hvo hro4 hkn hb4 hbn hbb f0 f1 f2 f3 h1 h2 h3 h4 h5 HFr
      go_cut [8] from 24 to 44 (fun s8 wx => LiveMade W4 (atEndL (rd_T49 blks k) (outs kn)) s8 wx)
      case first =>
        rw [hW4]
        go_region_held3 (fun W => W.cell? ⟨wr.heap.size, 0, none⟩ = some (.int .i64 k) ∧ W.cell? ⟨wr.heap.size + 1, 0, none⟩ = some (.slice A5 (rd_T49 blks k).f0.length c5) ∧ W.cell? ⟨wr.heap.size + 1, 1, none⟩ = some (.int .u8 (rd_T49 blks k).f1) ∧ W.cell? ⟨wr.heap.size + 1, 2, none⟩ = some (.int .i64 (rd_T49 blks k).f2) ∧ W.cell? ⟨wr.heap.size + 1, 3, none⟩ = some (.int .i64 (rd_T49 blks k).f3) ∧ W.cell? ⟨wr.heap.size + 1, 4, none⟩ = some (.int .i64 (rd_T49 blks k).f4) ∧ W.cell? ⟨go, k.toNat, none⟩ = some (.slice Ao (outs kn).length co2))
          (first
            | go_keep
            | (refine ⟨pw_cell_below (w := W4) ?_ n0, pw_cell_below (w := W4) ?_ b0, pw_cell_below (w := W4) ?_ b1, pw_cell_below (w := W4) ?_ b2, pw_cell_below (w := W4) ?_ b3, pw_cell_below (w := W4) ?_ b4, pw_cell_below (w := W4) ?_ co⟩ <;> first | exact below_drew (Below.refl _ _) | exact below_step (below_drew (Below.refl _ _)) hb8 | exact below_alloc (below_step (below_drew (Below.refl _ _)) hb8) _ | exact below_alloc (below_drew (Below.refl _ _)) _ | exact below_drew (below_alloc (Below.refl _ _) _) | exact below_step (below_drew (below_alloc (Below.refl _ _) _)) hb8 | exact (below_step (below_drew (below_alloc (Below.refl _ _) _)) hb8).setCell (p := ⟨W4.heap.size, 0, none⟩) (Nat.le_refl _) _)
            | fail)
          (first
            | (go_at_call 93
               with_reducible refine (atEnd_any A5 (rd_T49 blks k).f0.length c5 (rd_T49 blks k) Ao co2 (outs kn) _ (Aside0.out ?_) hco2 hol HXX.out).mono ?_
               (first | exact ⟨Kd.C_below HCO.out.1 (below_drew (Below.refl _ _))⟩ | exact ⟨Kd.C_below HCO.out.1 (below_alloc (below_drew (Below.refl _ _)) _)⟩ | exact ⟨Kd.C_below HCO.out.1 (below_drew (below_alloc (Below.refl _ _) _))⟩)
               rintro e w8 ⟨v8, rfl, hR8, hb8⟩
               obtain ⟨A8, c8, hv8⟩ := Kd.R_slice hR8
               subst hv8
               try (have hbl := blk_below (show (W4.alloc (.cells #[.slice none 0 0] 159)).drew.heap[W4.heap.size]? = some (.cells #[.slice none 0 0] 159 (0, 0)) from blk_new W4 (.cells #[.slice none 0 0] 159)) hb8
                    have cbl := blk1 hbl
                    have fbl : w8.frozen? ⟨W4.heap.size, 0, none⟩ = false := (by simp [World.frozen?, show w8.heap[W4.heap.size]? = _ from hbl]))))
        all_goals
          go_wp2_with fail
          go_meet
          first
          | exact liveMade1 hR8 hb8
          | exact liveMade2 hR8 hb8
      case rest =>
        obtain ⟨bl, Al, cl, rfl, hbl, hRl, hbw, hbl0⟩ := hcut
        have HSc := Aside0.mk (HS4.out.after hbw)
        have HKc := Aside0.mk (HK4.out.below hbw)
        have HMc := Aside0.mk (HM4.out.below hbw)
        have HBL := Aside0.mk hbl
        have HRl := Aside0.mk hRl
        have HBNc := Aside0.mk (blk_below HBN.out hbw)
        have HZ4 := Aside0.mk (show w.heap.size ≤ W4.heap.size from Nat.le_trans HB2.out.size HK4.out.1)
        have HZr := Aside0.mk (show w.heap.size ≤ wr.heap.size from Nat.le_trans HB2.out.size HK1.out.1)
        have HBL0 := Aside0.mk hbl0
        obtain ⟨b0', b1', b2', b3', b4'⟩ := blk5 (blk_below HBB.out hbw)
        clear n0 b0 b1 b2 b3 b4 co hbl hRl hbw hbl0
        go_wp2_with fail
        refine ((callsIn_wide (n := 5)).1 (backward_in 5 A5 (rd_T49 blks k).f0.length c5 wc)).mono ?_
        rintro e w9 ⟨rfl, rfl⟩
        go_wp2_with fail
        obtain ⟨W9, hW9⟩ : ∃ W9, wc.alloc (.cells #[.slice A5 (rd_T49 blks k).f0.length c5] 47) = W9 := ⟨_, rfl⟩
        have hb9 : Below wc.heap.size wc W9 := by rw [← hW9]; exact below_alloc (Below.refl _ _) _
        have hx9 : W9.heap[wc.heap.size]? = some (.cells #[.slice A5 (rd_T49 blks k).f0.length c5] 47 (0, 0)) := by rw [← hW9]; exact blk_new _ _
        rw [hW9]
        have HX9 := Aside0.mk hx9
        have HS9 := Aside0.mk (HSc.out.after hb9)
        have HK9 := Aside0.mk (HKc.out.below hb9)
        have HM9 := Aside0.mk (HMc.out.below hb9)
        have HBL9 := Aside0.mk (blk_below HBL.out hb9)
        have HN9 := Aside0.mk (blk_below HBNc.out hb9)
        have HA9 := Aside0.mk (blk_kept HA2.out HK9.out (by have := HLEV.out (w.heap.size + 1) (Nat.le_succ _); omega))
        have hlb1 : labN lab w.heap.size 24 bs % 2 = 0 := by rw [labN_lt (blk_lt HBS.out)]; exact hlb
        have HBS9 := Aside0.mk (blk_kept HBS2.out HK9.out (by omega))
        have HZ9 := Aside0.mk hb9.size
        have HLV9 := Aside0.mk (Kd.R_lower (base' := w0.heap.size) (Kd.R_below HRl.out hb9) HS4.out.below.size)
        have HT : Aside0 (∀ q, (Value.slice Al (atEndL (rd_T49 blks k) (outs kn)).length cl).ownBlock = some q → (∃ cells, W9.heap[q]? = some (.cells cells 191 (0, 0))) ∧ w.heap.size ≤ q) := ⟨fun q hq => ⟨by
          obtain ⟨cells, hc⟩ := Kd.R_typed HRl.out q hq
          exact ⟨cells, blk_below hc hb9⟩, Nat.le_trans HZ4.out (Kd.R_base HRl.out q hq)⟩⟩
        have HNT : Aside0 (∀ (b t : Nat) (cs : Array Value), W9.heap[b]? = some (.cells cs t (0, 0)) → t ≠ 191 → some b ≠ (Value.slice Al (atEndL (rd_T49 blks k) (outs kn)).length cl).ownBlock) := ⟨fun b t cs hb hne e => by
          obtain ⟨⟨cells, hc⟩, _⟩ := HT.out b e.symm
          rw [hb] at hc
          injection hc with hc
          injection hc with _ hc
          exact hne hc⟩
        have HQ : Aside0 (∀ q, (Value.slice Al (atEndL (rd_T49 blks k) (outs kn)).length cl).ownBlock = some q → labN lab w.heap.size 24 q % 2 = 0 ∧ labN lab w.heap.size 24 q ≠ 0) := ⟨fun q hq => by rw [labN_ge (HT.out q hq).2]; omega⟩
        have HI0 : Aside0 (VisI L w0 W9 gs n (labN lab w.heap.size 24) vs (.slice Al (atEndL (rd_T49 blks k) (outs kn)).length cl) (atEndL (rd_T49 blks k) (outs kn)) regs [] W9) := ⟨⟨_, HS9.out⟩, fun _ _ _ _ => rfl, Kd.R_tight rfl HLV9.out, Nat.le_refl _⟩
        have hz1 : w0.heap.size ≤ W9.heap.size := HS9.out.below.size
        have hz3 : wc.heap.size < W9.heap.size := blk_lt hx9
        have hcl5 : (rd_T49 blks k).f0.length ≤ 1000000 := HLEN.out _ (mem_rd (z := z49) hk0 hlt)
        have hLL2 : (atEndL (rd_T49 blks k) (outs kn)).length = L := by rw [atEndL_len, HLO.out, HLL.out]
        have HL2 := Aside0.mk hLL2; clear hLL2
        refine (wpIn_wide (n := 5)).1 (wpIn_rangeFunc_ownH (α := { x : Int × S51 // insWf regs x.2 }) rfl (by decide) (gf := 110) (lb := #[.pointer (some ⟨wc.heap.size, 0, none⟩)]) rfl trivial callFunc_Backward1
          (back_stops 4 wc.heap.size A5 c5 (rd_T49 blks k).f0 (insWf regs) w0 W9 (by decide) HR5.out hl5 hcl5 HBW.out.ins HS9.out.below hx9) (fun h k => KB.trans h k) (KB.putObj hz1 hz3) (Below.refl _ _) (fun _ => rfl)
          (VisI L w0 W9 gs n (labN lab w.heap.size 24) vs (.slice Al (atEndL (rd_T49 blks k) (outs kn)).length cl) (atEndL (rd_T49 blks k) (outs kn)) regs) (fun _ _ _ => False) (VisI.own hz1) (fun _ _ _ _ _ h _ _ => h) HI0.out
          (fun y a' W => ∃ b10, a' = { tmps := #[.agg #[.string nm, .int .i64 regs, .slice A na c, .slice (some adb) blks.length c3], .func (.func 68) #[] #[.pointer (some ⟨bs, 0, none⟩)], .pointer (some ⟨w.heap.size, 0, none⟩), .pointer (some ⟨w.heap.size + 1, 0, none⟩), .slice (some ⟨gi, 0, none⟩) blks.length blks.length, .slice (some ⟨go, 0, none⟩) blks.length blks.length, .pointer (some ⟨wr.heap.size, 0, none⟩), .pointer (some ⟨wr.heap.size + 1, 0, none⟩), .pointer (some ⟨bl, 0, none⟩), .int .i64 y.1.1, .pointer (some ⟨b10, 0, none⟩), .tuple #[.slice (some ⟨gi, 0, none⟩) blks.length blks.length, .slice (some ⟨go, 0, none⟩) blks.length blks.length], .agg #[.string nm, .int .i64 regs, .slice A na c, .slice (some adb) blks.length c3], .tuple #[.slice (some ⟨gi, 0, none⟩) blks.length blks.length, .slice (some ⟨go, 0, none⟩) blks.length blks.length], .slice (some ⟨gi, 0, none⟩) blks.length blks.length, .slice (some ⟨go, 0, none⟩) blks.length blks.length, .pointer (some ⟨w.heap.size, 3, none⟩), .slice (some adb) blks.length c3, .int .i64 (blks.length : Int), .int .i64 k, .bool true, .int .i64 k, .pointer (some (adb.add (k.toNat * 5))), .agg #[.slice A5 (rd_T49 blks k).f0.length c5, .int .u8 (rd_T49 blks k).f1, .int .i64 (rd_T49 blks k).f2, .int .i64 (rd_T49 blks k).f3, .int .i64 (rd_T49 blks k).f4], u24, u25, u26, u27, u28, u29, .pointer (some ⟨wr.heap.size + 1, 0, none⟩), .slice A5 (rd_T49 blks k).f0.length c5, .func (.func 110) #[] #[.pointer (some ⟨wc.heap.size, 0, none⟩)], .int .i64 y.1.1, (.agg #[.int .u8 y.1.2.f0, .int .i64 y.1.2.f1, .int .i64 y.1.2.f2, .int .i64 y.1.2.f3, .int .i64 y.1.2.f4, .string y.1.2.f5]), u35, u36, u37, u38, u39, u40, u41, u42, u43, u44], defers := [] } ∧ W.heap[b10]? = some (.cells #[.int .u8 y.1.2.f0, .int .i64 y.1.2.f1, .int .i64 y.1.2.f2, .int .i64 y.1.2.f3, .int .i64 y.1.2.f4, .string y.1.2.f5] 51 (0, 0)) ∧ w.heap.size ≤ b10) ?own ?assign ?body ?done ?stop)
        case own =>
          rintro y a' _ W W' row ⟨b15, e, hb, hge⟩ hg hr
          exact ⟨b15, e, (hg.block b15 (blk_lt hb) (fun e => by
            obtain ⟨_, o, ho, hc2⟩ := hr b15 e.symm
            rw [hb] at ho
            injection ho with ho
            subst ho
            cases hc2)).trans hb, hge⟩
        case assign =>
          intro l pre y W K0 hI hK0
          simp only [encB, insV]
          gi_wp2
          exact hK0 _ _ ((KeepsOthers.alloc _ _).from _) (hI.kbAlloc hz1 hz3 _) (hI.below (below_alloc (Below.refl _ _) _)) ⟨W.heap.size, rfl, blk_new _ _, by have := hI.big; have := HZ9.out; have := HZ4.out; have := HBL0.out; have := blk_lt HBL.out; omega⟩
        case body =>
          rintro l pre y a' W hl0 hrec hI ⟨b15, rfl, hb15, hge15⟩ hlen
          have HIw := Aside0.mk hI; have HB15 := Aside0.mk hb15; have HG15 := Aside0.mk hge15
          have hkp := fun (b t : Nat) (cs : Array Value) (h : W9.heap[b]? = some (.cells cs t (0, 0))) (hne : t ≠ 191) (hev : labN lab w.heap.size 24 b % 2 = 0) => (hI.keep b (blk_lt h) hev (HNT.out b t cs h hne)).trans h
          have HAW := Aside0.mk (hkp _ _ _ HA9.out (by decide) (HLEV.out _ (Nat.le_succ _)))
          have HNW := Aside0.mk (hkp _ _ _ HN9.out (by decide) (HLEV.out _ HZr.out))
          have HLW := Aside0.mk (hkp _ _ _ HBL9.out (by decide) (HLEV.out _ (Nat.le_trans HZ4.out HBL0.out)))
          have HBW2 := Aside0.mk (hkp _ _ _ HBS9.out (by decide) hlb1)
          obtain ⟨xs2, hS2⟩ := hI.st
          have HSW := Aside0.mk hS2
          obtain ⟨sl, hsl⟩ : ∃ sl, backL (pre.map (·.1.2)) (atEndL (rd_T49 blks k) (outs kn)) = sl := ⟨_, rfl⟩
          have hsL : sl.length = (atEndL (rd_T49 blks k) (outs kn)).length := by rw [← hsl]; exact backL_len _ _
          have hlive := hI.live
          rw [hsl] at hlive
          have hcl := Kd.R_reads' hlive
          have hcall := inter1_any L w0 gs n (labN lab w.heap.size 24) vs xs2 bs k y.1.1 regs y.1.2 Al cl sl W hS2 HBW2.out hlb1 HNR.out (by rw [HLL.out]; omega) (by rw [HLL.out]; omega) y.2 hcl.2.2 (by have := hcl.2.1; omega) (hsL.trans HL2.out)
            (by rw [← hsl]; exact backL_canon _ _ (atEndL_canon _ HCAN.out)) (by rw [← hsl]; exact backL_bnd _ _ (fun i hi => by obtain ⟨q, _, rfl⟩ := List.mem_map.1 hi; exact q.2) (atEndL_bnd HBW.out HBND.out))
          rw [hsL] at hcall
          have HCALL := Aside0.mk hcall
          have hbf := before_f regs y.1.2 sl y.2 (by rw [hsL, HL2.out, HLL.out]; omega) (by rw [hsL, HL2.out, HLL.out]; omega)
          have HBF2 := Aside0.mk hbf
          have HSL3 := Aside0.mk hsl
          obtain ⟨i0, i1, i2, i3, i4, i5⟩ := blk6 hb15
          have aw := blk1 HAW.out
          have nw := blk1 HNW.out
          have lw := blk1 HLW.out
          clear hI hb15 hrec hkp hS2 hsl hsL hlive hcl hcall hbf hge15
          gi_wp2
          refine ⟨trivial, CallsIn.inRound l ((callsIn_wide (n := 2)).2 (HCALL.out.mono ?_))⟩
          rintro e W1 ⟨rfl, xs3, hS3, hK3⟩
          have HS3 := Aside0.mk hS3; have HK3 := Aside0.mk hK3; clear hS3 hK3
          have h15 := blk_kept HB15.out HK3.out (by have := HLEV.out b15 HG15.out; omega)
          have hl1 := blk_kept HLW.out HK3.out (by have := HLEV.out bl (Nat.le_trans HZ4.out HBL0.out); omega)
          have HLV1 := Aside0.mk (HIw.out.live1 HK3.out HQ.out)
          rw [HSL3.out] at HLV1
          clear i0 i1 i2 i3 i4 i5 aw nw lw
          obtain ⟨i0, i1, i2, i3, i4, i5⟩ := blk6 h15
          have lw := blk1 hl1
          clear h15 hl1
          gi_wp2
          refine ⟨trivial, CallsIn.inRound l ((callsIn_wide (n := 2)).2 ((liveness_before.calls 4 _ _ _ _ _ _ (fun q => some q = (Value.slice Al (atEndL (rd_T49 blks k) (outs kn)).length cl).ownBlock) (.slice Al (atEndL (rd_T49 blks k) (outs kn)).length cl) _ _ w0 W1 HS3.out.below HLV1.out HBF2.out).mono ?_))⟩
          rintro e W2 ⟨rfl, hR2, hB2, hK2⟩
          rw [← HSL3.out] at hR2
          gi_wp2
          exact ⟨HIw.out.keeps HK3.out hK2 (fun q hq => HLEV.out q (by have := HZ9.out; have := HZ4.out; have := HBL0.out; have := blk_lt HBL.out; omega)), HIw.out.kbRound hz3 hB2 HK3.out hK2 (fun q hq e => HNT.out wc.heap.size 47 _ HX9.out (by decide) (e ▸ hq.symm)) (HLEV.out _ (by have := HZ4.out; have := HBL0.out; have := blk_lt HBL.out; omega)), HIw.out.round HS3.out HK3.out HQ.out hB2 hK2 y hR2⟩
        case done =>
          intro D xs2 W hD hxs hI hDD
          have HIW := Aside0.mk hI; have HDD := Aside0.mk hDD
          clear hI hDD
          obtain ⟨xs4, hS4⟩ := HIW.out.st
          have HK10 : Aside0 (Kept W9 W (fun q => labN lab w.heap.size 24 q % 2 = 1 ∨ some q = (Value.slice Al (atEndL (rd_T49 blks k) (outs kn)).length cl).ownBlock)) := ⟨⟨HIW.out.big, fun q hq hn => HIW.out.keep q hq (by omega) (fun e => hn (.inr e))⟩⟩
          have HM10 := Aside0.mk (HM9.out.step (w1 := W) (fun E hE hl => HIW.out.keep E (blk_lt hE) (by omega) (fun e => by
            obtain ⟨⟨cells, hc⟩, _⟩ := HT.out E e.symm
            rw [hE] at hc
            simp at hc)))
          have HS10 := Aside0.mk hS4
          have HK11 : Aside0 (Kept w2 W (fun q => labN lab w.heap.size 24 q % 2 = 1)) := ⟨⟨Nat.le_trans HK9.out.1 HK10.out.1, fun q hq hn => by
            rw [HK10.out.2 q (Nat.lt_of_lt_of_le hq HK9.out.1) (fun h => h.elim hn (fun e => by
              have := Kd.R_base HRl.out q e.symm
              have := HK4.out.1
              omega))]
            exact HK9.out.2 q hq hn⟩⟩
          have HMK := Aside0.mk (HM10.out.cons HM9.out HDD.out (labN_ge (by have := HZ9.out; have := HZ4.out; have := HBL0.out; have := blk_lt HBL.out; omega)) (by have := HZ9.out; have := HZ4.out; have := HBL0.out; have := blk_lt HBL.out; omega) hD)
          clear hS4
          go_wp2
          go_roundg (blks.length - (k + 1).toNat)
          case rel => exact ⟨k + 1, rfl, by omega, by omega, rfl, ⟨xs4, HS10.out, HK11.out, HMK.out⟩⟩
          case measure => have := HGK.out; omega
        case stop =>
          intro D c pre W _ _ h _
          exact h.elim
    · go_wp2_with fail
      obtain ⟨Ds, rfl, hnd, hDs⟩ := HM1.out
      refine leavesM (v := .tuple #[]) (fun w => results_none rfl _ _ w) Ds wr hnd (fun D hD => (hDs D hD).1) ?_
      intro w' ht
      have hzz : w0.heap.size ≤ w.heap.size := HS.out.below.size
      have hzw : w.heap.size ≤ wr.heap.size := Nat.le_trans HB2.out.size HK1.out.1
      have hb1 := HS1.out.below
      have hb : Below w0.heap.size w0 w' := ⟨ht.os.trans hb1.os, ht.tape.trans hb1.tape, ht.output.trans hb1.output, by rw [ht.size]; exact hb1.size, fun i hi => (ht.same i (fun hm => by have := (hDs i hm).2.2; omega)).trans (hb1.block i hi)⟩
      have hs : SetsAt L w0 w' gs n (labN lab w.heap.size 24) vs xs1 := HS1.out.step hb (fun q cells t hc _ => ht.same q (fun hm => by
        have h := (hDs q hm).1
        rw [hc] at h
        simp at h))
      refine ⟨rfl, xs1, hs.relab (fun q hq h => ?_), ⟨by rw [ht.size]; exact hzw, fun q hq hn => ?_⟩⟩
      · by_cases e : q < w.heap.size
        · exact (labN_lt e).symm
        · rw [labN_ge (by omega)] at h; omega
      · rw [ht.same q (fun hm => by have := (hDs q hm).2.2; omega), HK1.out.2 q (Nat.lt_of_lt_of_le hq HB2.out.size) (fun h => hn (by have h2 : labN lab w.heap.size 24 q % 2 = 1 := h; rw [labN_lt hq] at h2; exact h2))]
        exact HB2.out.block q hq
end Go.Proofs.Ytadaopfcgpfiiaa
namespace Go.Proofs.Ytadaopfcgpfiiaa
open Go.RowKit Go.Proofs.YtadaopfcgpfiiaaW.PrintWords Go.Proofs.YtadaopfcgpfiiaaW.PrintLast Go.Proofs.YtadaopfcgpfiiaaW.PrintMore PCg
set_option linter.unusedVariables false
set_option linter.unusedSimpArgs false
/-- a row of rows, read off -/
theorem rows_of {w : World} {g n : Nat} {vs : Nat → Value} {xs : Nat → List Int} (hr : RowAt w g n 37 vs) (hn : n ≤ 1000000) (h : ∀ i, i < n → ∃ A c, vs i = .slice A (xs i).length c ∧ (xs i).length ≤ c ∧ Kd.C kI w A (xs i).length (xs i)) :
    Kd.C kRows w (some ⟨g, 0, none⟩) n ((List.range n).map xs) := by
  refine ⟨by simp, by omega, fun _ => ⟨_, rfl, fun j p hj => ?_⟩⟩
  have hjn : j < n := by
    rcases Nat.lt_or_ge j n with h | h
    · exact h
    · rw [List.getElem?_eq_none (by simpa using h)] at hj
      cases hj
  have hp : p = xs j := by
    rw [List.getElem?_map, List.getElem?_range hjn] at hj
    simpa using hj.symm
  subst hp
  obtain ⟨A, c, hv, hl, hC⟩ := h j hjn
  refine ⟨[vs j], rfl, ⟨A, c, by rw [hv], hl, hC⟩, fun i u hu => ?_⟩
  have hi : i = 0 := by
    rcases Nat.eq_zero_or_pos i with h | h
    · exact h
    · rw [List.getElem?_eq_none (by simp; omega)] at hu
      cases hu
  subst hi
  have hu2 : vs j = u := by simpa using hu
  subst hu2
  have e : kRows.sz = 1 := rfl
  have hc := hr.cell hjn
  by_cases h0 : j = 0
  · subst h0; simpa [e, Addr.add] using hc
  · simpa [e, Addr.add, h0] using hc
/-- k of the sets are made -/
structure SetsUp (regs : Int) (w wr : World) (gs bs n k : Nat) (lab : Nat → Nat) (vs : Nat → Value) : Prop where
  below : Below w.heap.size w wr
  rs : RowAt wr gs n 159 vs
  ls : ∀ i, i < k → kU.R 191 wr w.heap.size (fun b => lab b = 2 * i + 1) (vs i) (zerosL regs)
  old : ∀ b, b < gs → lab b % 2 = 0
  bs : lab bs = 2 ∧ wr.heap[bs]? = some (.cells #[.slice (some ⟨gs, 0, none⟩) n n] 157 (0, 0))
  gs : lab gs = 0 ∧ w.heap.size ≤ gs
theorem SetsUp.next {regs : Int} {w wr w3 : World} {gs bs n k : Nat} {lab : Nat → Nat} {vs : Nat → Value} {v : Value} (h : SetsUp regs w wr gs bs n k lab vs) (hk : k < n) (hb : Below wr.heap.size wr w3) (hR : kU.R 191 w3 wr.heap.size (fun _ => True) v (zerosL regs)) :
    SetsUp regs w (w3.setCell ⟨gs, k, none⟩ v) gs bs n (k + 1) (labN lab wr.heap.size (2 * k + 1)) (upd vs k v) := by
  have hgl := h.rs.lt
  have hbl := blk_lt h.bs.2
  have hgb : gs ≠ bs := fun e => by have := h.gs.1; have := h.bs.1; rw [← e] at this; omega
  have hb0 : Below w.heap.size w w3 := below_step h.below hb
  refine ⟨hb0.setCell (p := ⟨gs, k, none⟩) h.gs.2 _, (h.rs.step (fun _ hc => hb.block _ (blk_lt hc))).set hk v, fun i hi => ?_, fun b hb => by rw [labN_lt (Nat.lt_trans hb hgl)]; exact h.old b hb, ⟨(labN_lt hbl).trans h.bs.1, ?_⟩, ⟨(labN_lt hgl).trans h.gs.1, h.gs.2⟩⟩
  · by_cases e : i = k
    · subst e
      rw [upd_same]
      exact Kd.R_far (Kd.R_lower (Kd.R_mono (Kd.R_bound hR) (fun q hq => labN_ge hq.2.1)) h.below.size) (fun q hq => by
        intro e
        have e : q = gs := e
        have h2 : labN lab wr.heap.size (2 * i + 1) q = 2 * i + 1 := hq
        rw [e, labN_lt hgl, h.gs.1] at h2
        omega) _
    · rw [upd_ne _ _ e]
      have h1 := Kd.R_mono (ok' := fun b => labN lab wr.heap.size (2 * k + 1) b = 2 * i + 1) (Kd.R_bound (h.ls i (by omega))) (fun q hq => (labN_lt hq.2.2.1).trans hq.1)
      exact Kd.R_far (Kd.R_below h1 hb) (fun q hq => by
        intro e
        have e : q = gs := e
        have h2 : labN lab wr.heap.size (2 * k + 1) q = 2 * i + 1 := hq
        rw [e, labN_lt hgl, h.gs.1] at h2
        omega) _
  · rw [Below.heap_setCell _ _ _ _ (Ne.symm hgb)]
    exact blk_below h.bs.2 hb
theorem SetsUp.full {regs : Int} {w wr : World} {gs bs n : Nat} {lab : Nat → Nat} {vs : Nat → Value} (h : SetsUp regs w wr gs bs n n lab vs) : SetsAt ((regs + 63) / 64).toNat w wr gs n lab vs (fun _ => zerosL regs) :=
  ⟨h.below, h.rs, h.ls, fun _ _ => by simp [zerosL], fun _ _ => canon_zeros _, h.gs⟩
/-- k of the lists are made -/
structure ListsUp (w wq wr : World) (go n k : Nat) (vo : Nat → Value) (os : Nat → List Int) : Prop where
  below : Below w.heap.size w wr
  keep : ∀ q, q < wq.heap.size → q ≠ go → wr.heap[q]? = wq.heap[q]?
  size : wq.heap.size ≤ wr.heap.size
  ro : RowAt wr go n 37 vo
  lo : ∀ i, i < k → kI.R 3 wr w.heap.size (fun b => b ≠ go) (vo i) (os i)
  go : w.heap.size ≤ go ∧ go < wq.heap.size
theorem ListsUp.next {w wq wr w3 : World} {go n k : Nat} {vo : Nat → Value} {os : Nat → List Int} {v : Value} {l : List Int} (h : ListsUp w wq wr go n k vo os) (hk : k < n) (hb : Below wr.heap.size wr w3) (hR : kI.R 3 w3 wr.heap.size (fun _ => True) v l) :
    ListsUp w wq (w3.setCell ⟨go, k, none⟩ v) go n (k + 1) (upd vo k v) (upd os k l) := by
  have hgl := h.ro.lt
  refine ⟨(below_step h.below hb).setCell (p := ⟨go, k, none⟩) h.go.1 _, fun q hq hne => ?_, ?_, (h.ro.step (fun _ hc => hb.block _ (blk_lt hc))).set hk v, fun i hi => ?_, h.go⟩
  · rw [Below.heap_setCell _ _ _ _ hne, hb.block q (Nat.lt_of_lt_of_le hq h.size)]
    exact h.keep q hq hne
  · have := hb.size; have := h.size; simp [World.setCell]; omega
  · by_cases e : i = k
    · subst e
      rw [upd_same, upd_same]
      exact Kd.R_far (Kd.R_lower (Kd.R_mono (Kd.R_bound hR) (fun q hq => by have h2 := hq.2.1; have h3 := h.ro.lt; intro e; have e : q = go := e; rw [e] at h2; omega)) h.below.size) (fun q hq => hq) _
    · rw [upd_ne _ _ e, upd_ne _ _ e]
      exact Kd.R_far (Kd.R_below (h.lo i (by omega)) hb) (fun q hq => hq) _
theorem ListsUp.done {w wq wr : World} {go n : Nat} {vo : Nat → Value} {os : Nat → List Int} (h : ListsUp w wq wr go n n vo os) (hn : n ≤ 1000000) : InterPost (n : Int) w (.returned (.tuple #[.slice (some ⟨go, 0, none⟩) n n, .int .i64 0])) wr := by
  have hr := rows_of h.ro hn (fun i hi => by
    obtain ⟨A, c, hv⟩ := Kd.R_slice (h.lo i hi)
    have := Kd.R_reads' (hv ▸ h.lo i hi)
    exact ⟨A, c, hv, this.2.1, this.2.2⟩)
  have hl : ((List.range n).map os).length = n := by simp
  exact ⟨some ⟨go, 0, none⟩, n, (List.range n).map os, by rw [hl], by omega, by rw [hl]; exact hr, by rw [hl], h.below⟩
set_option maxRecDepth 100000 in
set_option maxHeartbeats 1000000 in
theorem interference_any (nm : ByteArray) (regs : Int) (A : Option Addr) (na c : Nat) (A3 : Option Addr) (c3 : Nat) (blks : List S49) (w : World)
    (hr3 : Kd.C k49 w A3 blks.length blks) (hcp3 : blks.length ≤ c3) (hn : blks.length ≤ 10000) (q1 : 0 < blks.length) (q2 : 0 ≤ regs) (q3 : regs ≤ 10000) (hwf : ∀ b ∈ blks, BlkWf regs blks.length b) (hlen : ∀ b ∈ blks, b.f0.length ≤ 1000000) :
    Calls Try.prog 46 #[.agg #[.string nm, .int .i64 regs, .slice A na c, .slice A3 blks.length c3]] w (InterPost regs w) := by
  have HR3 := Aside0.mk hr3; have HWF := Aside0.mk hwf; have HLEN := Aside0.mk hlen
  clear hr3 hwf hlen
  have hu := Try.underlying51
  have hu2 := Try.underlying49
  have hu3 := Try.underlying25
  obtain ⟨rn, hrn⟩ : ∃ rn : Nat, regs.toNat = rn := ⟨_, rfl⟩
  have hrr : regs = (rn : Int) := by omega
  subst hrr
  have hrn2 : rn ≤ 10000 := by omega
  clear hrn
  obtain ⟨w1, hw1⟩ : ∃ w1, w.alloc (.cells #[.string nm, .int .i64 rn, .slice A na c, .slice A3 blks.length c3] 25) = w1 := ⟨_, rfl⟩
  have HB1 : Aside0 (Below w.heap.size w w1) := ⟨by rw [← hw1]; exact below_alloc (Below.refl _ _) _⟩
  have HF1 : Aside0 (w1.heap[w.heap.size]? = some (.cells #[.string nm, .int .i64 rn, .slice A na c, .slice A3 blks.length c3] 25 (0, 0))) := ⟨by rw [← hw1]; exact blk_new _ _⟩
  have HWFA := Aside0.mk (wellFormed_any nm rn A na c A3 c3 blks w1 (Kd.C_below HR3.out HB1.out) hcp3 (by omega) q1 q2 q3 HWF.out)
  have hmk := make_sets rn (by omega)
  have hmk2 := make_intss rn (by omega)
  obtain ⟨f0, f1, f2, f3⟩ := blk4 HF1.out
  go_enter Try.func46, Try.ntmps46
  go_wp2_with fail
  refine HWFA.out.mono ?_
  rintro e w2 ⟨rfl, hb2⟩
  have HB2 := Aside0.mk (below_step HB1.out hb2)
  have HF2 := Aside0.mk (blk_below HF1.out hb2)
  clear f0 f1 f2 f3
  obtain ⟨f0, f1, f2, f3⟩ := blk4 HF2.out
  go_wp2_with fail
  obtain ⟨W3, hW3⟩ : ∃ W3, (w2.alloc (.cells (madeCells #[.slice none 0 0] rn) 159)).alloc (.cells #[.slice (some ⟨w2.heap.size, 0, none⟩) rn rn] 157) = W3 := ⟨_, rfl⟩
  obtain ⟨gs, hgs⟩ : ∃ gs, w2.heap.size = gs := ⟨_, rfl⟩
  have HSU : Aside0 (SetsUp rn w W3 gs (gs + 1) rn 0 (fun b => if b = gs then 0 else 2) (fun _ => .slice none 0 0)) := ⟨by
    subst hgs
    rw [← hW3]
    exact ⟨below_step HB2.out (below_alloc (below_alloc (Below.refl _ _) _) _), (rowAt_made w2 _ _ _).step (fun _ h => (below_alloc (Below.refl _ _) _).block _ (blk_lt h)), fun i hi => by omega, fun b hb => by simp [Nat.ne_of_lt hb], ⟨by simp, heap_alloc_at _ _ _ (by simp)⟩, ⟨by simp, HB2.out.size⟩⟩⟩
  rw [hW3]
  rw [hgs]
  clear f0 f1 f2 f3
  go_loopw [16] (fun i wr => ∃ k : Int, i = .int .i64 k ∧ 0 ≤ k ∧ k ≤ rn ∧ Aside0 (∃ lab vs, SetsUp rn w wr gs (gs + 1) rn k.toNat lab vs ∧ Below w2.heap.size w2 wr)) (fun i wr => rn - (intOf i).toNat)
  case atStart => exact ⟨0, rfl, Int.le_refl _, by omega, ⟨_, _, HSU.out, by rw [← hW3]; exact below_alloc (below_alloc (Below.refl _ _) _) _⟩⟩
  case round =>
    obtain ⟨k, rfl, hk0, hk, ⟨lab, vs, hS, hB⟩⟩ := hrel
    have HS := Aside0.mk hS; have HB := Aside0.mk hB
    clear hS hB
    by_cases hlt : k < rn
    · have p1 := eq_true hk0
      have q1 := eq_true hlt
      obtain ⟨f0, f1, f2, f3⟩ := blk4 (blk_below HF2.out HB.out)
      have b0 := blk1 HS.out.bs.2
      obtain ⟨kn, hkn⟩ : ∃ kn : Nat, k.toNat = kn := ⟨_, rfl⟩
      have hkl : kn < rn := by omega
      have hkk : (kn : Int) = k := by omega
      have ci := HS.out.rs.cell hkl
      have fi := HS.out.rs.free kn
      have hgl := HS.out.rs.lt
      have hne1 : w.heap.size ≠ gs := fun e => by have := blk_lt HF2.out; omega
      have hne2 : gs + 1 ≠ gs := by omega
      go_upto_region 7 with (fail)
      go_region_held3 (fun W => W.cell? ⟨w.heap.size, 1, none⟩ = some (.int .i64 rn) ∧ W.cell? ⟨gs + 1, 0, none⟩ = some (.slice (some ⟨gs, 0, none⟩) rn rn))
        (first
          | exact ⟨cell_setFar f13 hne1, cell_setFar b03 hne2⟩
          | exact cell_setFar f13 hne1
          | exact cell_setFar b03 hne2
          | exact ⟨f13, b03⟩
          | go_keep
          | fail)
        (first
          | (go_at_call 66
             with_reducible refine (newSet_any q2 q3 _).mono ?_
             rintro e w3 ⟨v3, rfl, hR3, hb3⟩
             obtain ⟨Av3, cv3, hv3⟩ := Kd.R_slice hR3
             subst hv3
             have ci3 := pw_cell_below (below_step (below_drew (Below.refl _ _)) hb3) ci
             have f13 := pw_cell_below (below_step (below_drew (Below.refl _ _)) hb3) f1
             have b03 := pw_cell_below (below_step (below_drew (Below.refl _ _)) hb3) b0
             have fi3 := ((below_step (below_drew (Below.refl wr.heap.size wr)) hb3).frozen (p := ⟨gs, kn, none⟩) hgl).trans fi))
      have hb4 : Below wr.heap.size wr w3 := below_step (below_drew (Below.refl wr.heap.size wr)) hb3
      have hS4 := HS.out
      rw [hkn] at hS4
      have HS5 := Aside0.mk (hS4.next hkl hb4 hR3)
      have HB5 : Aside0 (Below w2.heap.size w2 (w3.setCell ⟨gs, kn, none⟩ (.slice Av3 (zerosL rn).length cv3))) := ⟨(below_step HB.out hb4).setCell (p := ⟨gs, kn, none⟩) (by rw [hgs]; exact Nat.le_refl _) _⟩
      have HKN := Aside0.mk hkn
      clear hS4 hb4 hb3 hR3 ci fi ci3 fi3 f13 b03 f0 f1 f2 f3 b0 hkn
      go_wp2
      go_roundw
      case rel => exact ⟨k + 1, rfl, by omega, by omega, ⟨_, _, by rw [show (k + 1).toNat = kn + 1 by omega]; exact HS5.out, HB5.out⟩⟩
      case measure => simp [intOf]; omega
    · have hkr : k.toNat = rn := by omega
      have hS4 := HS.out
      rw [hkr] at hS4
      have HSA := Aside0.mk hS4.full
      have HBS := Aside0.mk hS4.bs
      have HOLD := Aside0.mk hS4.old
      have HFr := Aside0.mk (blk_below HF2.out HB.out)
      obtain ⟨f0, f1, f2, f3⟩ := blk4 HFr.out
      have HV := Aside0.mk (visit_any ((((rn : Int) + 63) / 64).toNat) w gs rn lab vs _ (gs + 1) nm rn A na c A3 c3 blks wr HSA.out HBS.out.2 (by have := HBS.out.1; omega) rfl rfl HR3.out hcp3 hn q2 q3 HWF.out HLEN.out)
      clear hS4 HSU hkr
      go_wp2_with fail
      refine HV.out.mono ?_
      rintro e w5 ⟨rfl, xs, hS5, hK5⟩
      have HS5 := Aside0.mk hS5; have HK5 := Aside0.mk hK5
      have hf5 := blk_kept HFr.out hK5 (by have := HOLD.out w.heap.size (by have := blk_lt HF2.out; omega); omega)
      have hb5 := blk_kept HBS.out.2 hK5 (by have := HBS.out.1; omega)
      have HB5 := Aside0.mk hb5
      clear f0 f1 f2 f3
      obtain ⟨f0, f1, f2, f3⟩ := blk4 hf5
      have b0 := blk1 hb5
      have hgl5 := blk_lt hb5
      clear hS5 hK5 HV hf5 hb5
      go_wp2_with fail
      obtain ⟨W6, hW6⟩ : ∃ W6, w5.alloc (.cells (madeCells #[.slice none 0 0] rn) 37) = W6 := ⟨_, rfl⟩
      have HU : Aside0 (ListsUp w W6 W6 w5.heap.size rn 0 (fun _ => .slice none 0 0) (fun _ => [])) := ⟨by
        rw [← hW6]
        exact ⟨below_alloc HS5.out.below _, fun _ _ _ => rfl, Nat.le_refl _, rowAt_made w5 _ _ _, fun i hi => by omega, ⟨HS5.out.below.size, by simp⟩⟩⟩
      have HS6 : Aside0 (SetsAt ((((rn : Int) + 63) / 64).toNat) w W6 gs rn lab vs xs) := ⟨by rw [← hW6]; exact HS5.out.after (below_alloc (Below.refl _ _) _)⟩
      have HB6 : Aside0 (W6.heap[gs + 1]? = some (.cells #[.slice (some ⟨gs, 0, none⟩) rn rn] 157 (0, 0))) := ⟨by rw [← hW6]; exact blk_alloc HB5.out _⟩
      have HKP : Aside0 (∀ q, q < w5.heap.size → W6.heap[q]? = w5.heap[q]?) := ⟨fun q hq => by rw [← hW6]; exact (below_alloc (Below.refl _ _) _).block q hq⟩
      have hz6 : W6.heap.size = w5.heap.size + 1 := by rw [← hW6]; simp
      have HZ6 := Aside0.mk hz6
      rw [hW6]
      obtain ⟨go, hgo⟩ : ∃ go, w5.heap.size = go := ⟨_, rfl⟩
      rw [hgo] at HU HKP HZ6
      rw [hgo]
      have HGO := Aside0.mk (And.intro hgo hgl5)
      clear hgo hgl5 hz6 f0 f1 f2 f3 b0 hW6
      go_loopw [34] (fun i wr => ∃ k : Int, i = .int .i64 k ∧ 0 ≤ k ∧ k ≤ rn ∧ Aside0 (∃ vo os, ListsUp w W6 wr go rn k.toNat vo os)) (fun i wr => rn - (intOf i).toNat)
      case atStart => exact ⟨0, rfl, Int.le_refl _, by omega, ⟨_, _, HU.out⟩⟩
      case round =>
        obtain ⟨k2, rfl, hk0b, hkb, ⟨vo, os, hL⟩⟩ := hrel
        have HL := Aside0.mk hL; clear hL
        by_cases hlt2 : k2 < rn
        · have p1 := eq_true hk0b
          have q1 := eq_true hlt2
          obtain ⟨kn, hkn⟩ : ∃ kn : Nat, k2.toNat = kn := ⟨_, rfl⟩
          have hkl : kn < rn := by omega
          have hkk : (kn : Int) = k2 := by omega
          have hsame := fun (q : Nat) (hq : q < w5.heap.size) => (HL.out.keep q (by have := HZ6.out; have := HGO.out.1; omega) (by have := HGO.out.1; omega)).trans (HKP.out q (by have := HGO.out.1; omega))
          have hb := (HL.out.keep (gs + 1) (blk_lt HB6.out) (by have := HGO.out; omega)).trans HB6.out
          have b0 := blk1 hb
          have cs := (HS5.out.rs.step (fun _ hc => hsame gs (blk_lt hc))).cell hkl
          have hR := Kd.R_move (Kd.R_bound (HS5.out.ls kn hkl)) (fun q hq => hsame q hq.2.2.1)
          obtain ⟨As, cs2, hvs⟩ := Kd.R_slice hR
          have hC := Kd.R_reads' (hvs ▸ hR)
          have hlf := list_f (HS5.out.can kn hkl) (by rw [HS5.out.len kn hkl]; omega)
          have HLF := Aside0.mk (liveness_set_list.calls _ As cs2 (xs kn) _ wr hC.2.2 hC.2.1 hlf)
          have co := HL.out.ro.cell hkl
          have fo := HL.out.ro.free kn
          rw [hvs] at cs
          have HKN := Aside0.mk hkn
          clear hsame hb hR hvs hC hlf
          go_wp2_with fail
          with_reducible refine HLF.out.mono ?_
          rintro e w7 ⟨v7, rfl, hR7, hb7⟩
          obtain ⟨A7, c7, hv7⟩ := Kd.R_slice hR7
          subst hv7
          have co7 := pw_cell_below hb7 co
          have fo7 := (hb7.frozen (p := ⟨go, kn, none⟩) (World.block_lt_of_cell? _ _ co)).trans fo
          have hL7 := HL.out
          rw [hkn] at hL7
          have HL7 := Aside0.mk (hL7.next hkl hb7 hR7)
          clear hR7 hb7 co fo hL7 cs b0
          go_wp2
          go_roundw
          case rel => exact ⟨k2 + 1, rfl, by omega, by omega, ⟨_, _, by rw [show (k2 + 1).toNat = kn + 1 by omega]; exact HL7.out⟩⟩
          case measure => simp [intOf]; omega
        · have hkr : k2.toNat = rn := by omega
          have hL7 := HL.out
          rw [hkr] at hL7
          have HD := Aside0.mk (hL7.done (by omega))
          clear hL7
          go_wp2
          go_ret2
          exact HD.out
end Go.Proofs.Ytadaopfcgpfiiaa
namespace Go.Proofs.Ytadaopfcgpfiiaa
open Go.RowKit Go.Proofs.YtadaopfcgpfiiaaW.PrintWords Go.Proofs.YtadaopfcgpfiiaaW.PrintLast Go.Proofs.YtadaopfcgpfiiaaW.PrintMore PCg
set_option linter.unusedVariables false
set_option linter.unusedSimpArgs false
theorem blks_wf {regs : Int} {arrs shared : List S44} {blks : List S49} (h : irOk regs arrs blks shared = true) (hl : ∀ b ∈ blks, b.f0.length ≤ 1000000) : ∀ b ∈ blks, BlkWf regs blks.length b := by
  intro b hb
  obtain ⟨j, hj, rfl⟩ := List.mem_iff_getElem.1 hb
  have h1 := (irOk_facts h).2.2.2.2.2.2 j hj
  have e : rd_T49 blks (j : Int) = blks[j] := by
    simp only [rd_T49, List.getD_eq_getElem?_getD]
    rw [show ((j : Int)).toNat = j from by omega, List.getElem?_eq_getElem hj]
    rfl
  rw [e] at h1
  exact blkWf_of_ok h1 (by have := hl _ hb; omega)
/-- what Task answers -/
def TaskPost (nm : ByteArray) (regs : Int) (arrs : List S44) (blks : List S49) (w : World) (e : Ending) (w' : World) : Prop :=
  (irOk regs arrs blks (mentL blks) = false ∧ e = .returned (.tuple #[zeroObj, .int .i64 3]) ∧ Below w.heap.size w w') ∨
    (irOk regs arrs blks (mentL blks) = true ∧ ∃ places slots, AllocOk regs places slots ∧ slots ≤ regs ∧ TaskOut nm arrs (layAll arrs arrs.length) (layA arrs arrs.length) blks places slots e w w')
theorem task_small (nm : ByteArray) (regs : Int) (A : Option Addr) (c : Nat) (arrs : List S44) (A3 : Option Addr) (c3 : Nat) (blks : List S49) (w : World)
    (hr : Kd.C k44 w A arrs.length arrs) (hcp : arrs.length ≤ c) (hr3 : Kd.C k49 w A3 blks.length blks) (hcp3 : blks.length ≤ c3)
    (hal : arrs.length ≤ 1000000) (hm3 : blks.length ≤ 10000) (hsum : (blks.map (fun b => b.f0.length)).sum ≤ 50000) (hns : ∀ a ∈ arrs, a.f0.size ≤ maxLen) (hnb : ∀ b ∈ blks, ∀ i ∈ b.f0, i.f5.size ≤ maxLen) :
    Calls Try.prog 12 #[.agg #[.string nm, .int .i64 regs, .slice A arrs.length c, .slice A3 blks.length c3]] w (TaskPost nm regs arrs blks w) := by
  refine (task_alloc (fun _ slots => slots ≤ regs) nm regs A c arrs A3 c3 blks w hr hcp hr3 hcp3 hal hm3 hsum hns hnb ?_).mono ?_
  · intro hok W hB
    obtain ⟨h1, h2, h3, _⟩ := irOk_facts hok
    have hlen : ∀ b ∈ blks, b.f0.length ≤ 1000000 := fun b hb => by have := len_le_sum hb; omega
    have hwf := blks_wf hok hlen
    refine (allocate_any nm regs A arrs.length c A3 blks.length c3 W h3 (fun W2 hB2 => interference_any nm regs A arrs.length c A3 c3 blks W2 (Kd.C_below (Kd.C_below hr3 hB) hB2) hcp3 hm3 (by omega) h2 h3 hwf hlen)).mono ?_
    rintro e W' ⟨places, slots, Ap, cp, he, hC, hA, hS, hb⟩
    exact ⟨places, slots, Ap, cp, hS, he, hC, hA, hb⟩
  · rintro e w' (h | ⟨hok, places, slots, hS, hA, hT⟩)
    · exact .inl h
    · exact .inr ⟨hok, places, slots, hA, hS, hT⟩
end Go.Proofs.Ytadaopfcgpfiiaa
namespace Go.Proofs.Ytadaopfcgpfiiaa
open Go.RowKit Go.Proofs.YtadaopfcgpfiiaaW.PrintWords Go.Proofs.YtadaopfcgpfiiaaW.PrintLast Go.Proofs.YtadaopfcgpfiiaaW.PrintMore PCg
theorem const_awake : codegen_Constant.f 10 3 131072 = some [⟨14, 3, 0, 0, 8⟩, ⟨16, 3, 3, 0, 14⟩, ⟨17, 3, 3, 0, 0⟩] := by kernel_rfl
end Go.Proofs.Ytadaopfcgpfiiaa
namespace Go.Proofs.Ytadaopfcgpfiiaa
open Go.RowKit Go.Proofs.YtadaopfcgpfiiaaW.PrintWords Go.Proofs.YtadaopfcgpfiiaaW.PrintLast Go.Proofs.YtadaopfcgpfiiaaW.PrintMore PCg
set_option linter.unusedVariables false
set_option linter.unusedSimpArgs false
def bytesL (s : ByteArray) : List Int := s.data.toList.map (fun b => (b.toNat : Int))
theorem bytesL_len (s : ByteArray) : (bytesL s).length = s.size := by
  rw [bytesL, List.length_map, Array.length_toList]
  rfl
theorem bytes_read (w : World) (e : TypeId) (s : ByteArray) (cap p q : Nat) (hs : s.size ≤ 1000) : Kd.C (Kd.int .u8) (w.drew.alloc (.cells (bytesRow s cap) e (p, q))) (some ⟨w.heap.size, 0, none⟩) (bytesL s).length (bytesL s) := by
  refine ⟨rfl, by rw [bytesL_len]; omega, fun _ => ⟨_, rfl, fun j x hj => ⟨[.int .u8 x], rfl, rfl, fun i u hu => ?_⟩⟩⟩
  have hi : i = 0 := by
    rcases Nat.eq_zero_or_pos i with h | h
    · exact h
    · rw [List.getElem?_eq_none (by simp; omega)] at hu
      cases hu
  subst hi
  have hu2 : Value.int .u8 x = u := by simpa using hu
  subst hu2
  have hjl : j < s.size := by
    rw [← bytesL_len]
    exact (List.getElem?_eq_some_iff.1 hj).1
  have hx : x = (s.data[j]'(hjl)).toNat := by
    rw [bytesL, List.getElem?_map] at hj
    simp only [Array.getElem?_toList] at hj
    rw [Array.getElem?_eq_getElem (hjl)] at hj
    simpa using hj.symm
  have hc : (bytesRow s cap)[j]? = some (.int .u8 x) := by
    have hm : j < (s.data.map (fun b => Value.int .u8 (b.toNat : Int))).size := by rw [Array.size_map]; exact hjl
    unfold bytesRow
    rw [Array.getElem?_append_left hm, Array.getElem?_map, Array.getElem?_eq_getElem (hjl), hx]
    rfl
  have hb : (w.drew.alloc (.cells (bytesRow s cap) e (p, q))).heap[w.heap.size]? = some (.cells (bytesRow s cap) e (p, q)) := by
    show (w.heap.push _)[w.heap.size]? = _
    simp
  have e1 : (Kd.int .u8).sz = 1 := rfl
  rw [e1]
  have hcell : (w.drew.alloc (.cells (bytesRow s cap) e (p, q))).cell? ⟨w.heap.size, j, none⟩ = some (.int .u8 x) := by
    unfold World.cell?
    dsimp only
    rw [hb]
    simpa using hc
  by_cases h0 : j = 0
  · subst h0; exact hcell
  · have ea : (⟨w.heap.size, 0, none⟩ : Addr).add (j * 1 + 0) = ⟨w.heap.size, j, none⟩ := by simp [Addr.add, h0]
    rw [ea]; exact hcell
theorem bytes_conv (s : ByteArray) (hs : s.size ≤ 1000) (w : World) : ∃ W' c, (convert 9 112 (.string s)).run Try.prog w = .ok (.slice (some ⟨w.heap.size, 0, none⟩) (bytesL s).length c) W' ∧ Below w.heap.size w W' ∧ Kd.C (Kd.int .u8) W' (some ⟨w.heap.size, 0, none⟩) (bytesL s).length (bytesL s) ∧ (bytesL s).length ≤ c := by
  refine ⟨w.drew.alloc (.cells (bytesRow s (grownCap w s.size 0 5)) 5 ((bytesRow s (grownCap w s.size 0 5)).size, (bytesRow s (grownCap w s.size 0 5)).size + 1)), grownCap w s.size 0 5, ?_, below_alloc (below_drew (Below.refl w.heap.size w)) _, bytes_read w 5 s (grownCap w s.size 0 5) _ _ hs, ?_⟩
  · have h := run_bytes_of_string (P := Try.prog) w 9 112 5 s (by kernel_rfl) (by kernel_rfl) (by kernel_rfl)
    rw [bytesL_len]
    exact h
  · rw [bytesL_len]; exact grownCap_ge _ _ _ _
set_option maxRecDepth 100000 in
theorem isaHas_any (s : ByteArray) (c : Int) (k : Nat) (r : Bool) (w : World) (hs : s.size ≤ 1000) (h : slices_Contains_byte_byte.f k (bytesL s) c = some r) :
    Calls Try.prog 58 #[.string s, .int .u8 c] w fun e w' => e = .returned (.bool r) ∧ Below w.heap.size w w' := by
  obtain ⟨W1, cp, hcv, hB, hC, hle⟩ := bytes_conv s hs w
  have HB := Aside0.mk hB
  have HC := Aside0.mk (slices_Contains_byte_byte.calls k _ cp (bytesL s) c r W1 hC hle h)
  clear hB hC hle h
  go_enter Try.func58, Try.ntmps58
  go_wp2_with fail
  refine HC.out.mono ?_
  rintro e w2 ⟨rfl, hd⟩
  have HB2 := Aside0.mk (below_step HB.out hd.below)
  clear HC hd
  go_wp2_with fail
  go_ret
  exact ⟨rfl, HB2.out⟩
set_option maxRecDepth 100000 in
theorem field_a (b : Nat) (w : World) (v0 v1 v2 v3 v4 : Value) (hb : w.heap[b]? = some (.cells #[v0, v1, v2, v3, v4] 53 (0, 0))) :
    Calls Try.prog 41 #[.pointer (some ⟨b, 0, none⟩), .int .u8 97] w fun e w' => e = .returned (.pointer (some ⟨b, 1, none⟩)) ∧ Drawn0 w w' := by
  have hu := Try.underlying53
  obtain ⟨c0, c1, c2, c3, c4⟩ := blk5 hb
  go_enter Try.func41, Try.ntmps41
  go_wp2_with fail
  go_ret
  exact ⟨rfl, Drawn0.refl _⟩
set_option maxRecDepth 100000 in
theorem field_b (b : Nat) (w : World) (v0 v1 v2 v3 v4 : Value) (hb : w.heap[b]? = some (.cells #[v0, v1, v2, v3, v4] 53 (0, 0))) :
    Calls Try.prog 41 #[.pointer (some ⟨b, 0, none⟩), .int .u8 98] w fun e w' => e = .returned (.pointer (some ⟨b, 2, none⟩)) ∧ Drawn0 w w' := by
  have hu := Try.underlying53
  obtain ⟨c0, c1, c2, c3, c4⟩ := blk5 hb
  go_enter Try.func41, Try.ntmps41
  go_wp2_with fail
  go_ret
  exact ⟨rfl, Drawn0.refl _⟩
set_option maxRecDepth 100000 in
theorem field_c (b : Nat) (w : World) (v0 v1 v2 v3 v4 : Value) (hb : w.heap[b]? = some (.cells #[v0, v1, v2, v3, v4] 53 (0, 0))) :
    Calls Try.prog 41 #[.pointer (some ⟨b, 0, none⟩), .int .u8 99] w fun e w' => e = .returned (.pointer (some ⟨b, 3, none⟩)) ∧ Drawn0 w w' := by
  have hu := Try.underlying53
  obtain ⟨c0, c1, c2, c3, c4⟩ := blk5 hb
  go_enter Try.func41, Try.ntmps41
  go_wp2_with fail
  go_ret
  exact ⟨rfl, Drawn0.refl _⟩
set_option maxRecDepth 100000 in
theorem field_i (b : Nat) (w : World) (v0 v1 v2 v3 v4 : Value) (hb : w.heap[b]? = some (.cells #[v0, v1, v2, v3, v4] 53 (0, 0))) :
    Calls Try.prog 41 #[.pointer (some ⟨b, 0, none⟩), .int .u8 105] w fun e w' => e = .returned (.pointer (some ⟨b, 4, none⟩)) ∧ Drawn0 w w' := by
  have hu := Try.underlying53
  obtain ⟨c0, c1, c2, c3, c4⟩ := blk5 hb
  go_enter Try.func41, Try.ntmps41
  go_wp2_with fail
  go_ret
  exact ⟨rfl, Drawn0.refl _⟩
end Go.Proofs.Ytadaopfcgpfiiaa
