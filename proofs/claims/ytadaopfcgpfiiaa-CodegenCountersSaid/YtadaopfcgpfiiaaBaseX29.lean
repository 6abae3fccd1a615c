/- Lemmas: what the theorem of the claim's last text needs, joined by a program out of the seat's texts F8, H4. -/
import Derived.Test.YtadaopfcgpfiiaaBaseX28
import Derived.Test.YtadaopfcgpfiiaaBaseX24
import Derived.Test.YtadaopfcgpfiiaaBaseX27
namespace Go.Proofs.Ytadaopfcgpfiiaa
open Go.RowKit Go.Proofs.YtadaopfcgpfiiaaW.PrintWords Go.Proofs.YtadaopfcgpfiiaaW.PrintLast Go.Proofs.YtadaopfcgpfiiaaW.PrintMore PCg
set_option linter.unusedVariables false
set_option linter.unusedSimpArgs false
def InterPost (regs : Int) (w : World) (e : Ending) (w' : World) : Prop :=
  ∃ A c edges, e = .returned (.tuple #[.slice A edges.length c, .int .i64 0]) ∧ edges.length ≤ c ∧ Kd.C kRows w' A edges.length edges ∧ (edges.length : Int) = regs ∧ Below w.heap.size w w'
def AllocPost (regs : Int) (w : World) (e : Ending) (w' : World) : Prop :=
  ∃ places slots Ap cp, e = .returned (.tuple #[.agg #[.slice Ap places.length cp, .int .i64 slots], .int .i64 0]) ∧ Kd.C kTwo w' Ap places.length places ∧ AllocOk regs places slots ∧ slots ≤ regs ∧ Below w.heap.size w w'
theorem infoPlace2 : (Try.prog.info? 131).map (fun i => (i.zero, i.size, i.bytes)) = some (some (.agg #[.int .i64 0, .int .i64 0]), 2, 16) := by kernel_rfl
/-- the first loop: its colours, what is spilled, the places so far -/
structure St1 (w2 w4 wr : World) (vc : Value) (cols : List Int) (vsp : Value) (sp : List Int) (vp : Value) (ps : List (Int × Int)) : Prop where
  below : Below w2.heap.size w2 wr
  wlt : w2.heap.size < w4.heap.size
  wle : w4.heap.size ≤ wr.heap.size
  ga : wr.heap[w2.heap.size]? = some (.cells #[vp, .int .i64 0] 83 (0, 0))
  cols : Kd.R (Kd.int .i64) 3 wr w2.heap.size (fun k => w2.heap.size < k ∧ k < w4.heap.size) vc cols
  sp : Kd.R (Kd.int .i64) 3 wr w2.heap.size (fun k => w4.heap.size ≤ k) vsp sp
  ps : Kd.R kTwo 131 wr w2.heap.size (fun k => w4.heap.size ≤ k) vp ps
section
variable {w2 w4 wr w1 : World} {vc vsp vp v1 : Value} {cols sp : List Int} {ps : List (Int × Int)}
theorem St1.spill (h : St1 w2 w4 wr vc cols vsp sp vp ps) {sp1 : List Int} (hR : Kd.R (Kd.int .i64) 3 w1 w2.heap.size (fun k => w4.heap.size ≤ k) v1 sp1) (hB : Below w2.heap.size w2 w1) (hg : wr.grownBy w1 vsp.ownBlock) : St1 w2 w4 w1 vc cols v1 sp1 vp ps := by
  have hrow : ∀ b, vsp.ownBlock = some b → w4.heap.size ≤ b := fun b hb => h.sp.1 b hb
  have h2 := h.wlt
  exact ⟨hB, h.wlt, Nat.le_trans h.wle hg.size, (hg.block _ (blk_lt h.ga) (fun e => by have := hrow _ e.symm; omega)).trans h.ga,
    Kd.R_grown h.cols hg (fun k hk e => by have := hrow _ e.symm; omega), hR,
    Kd.R_over' h.ps (Kd.R_typed h.sp) (by intro q hq; simp [kTwo, Kd.pair, Kd.int, Kd.scalar] at hq; subst hq; decide) hg⟩
theorem St1.place (h : St1 w2 w4 wr vc cols vsp sp vp ps) {ps1 : List (Int × Int)} (hR : Kd.R kTwo 131 w1 w2.heap.size (fun k => w4.heap.size ≤ k) v1 ps1) (hB : Below w2.heap.size w2 w1) (hg : wr.grownBy w1 vp.ownBlock) :
    w1.heap[w2.heap.size]? = some (.cells #[vp, .int .i64 0] 83 (0, 0)) ∧ St1 w2 w4 (w1.setCell ⟨w2.heap.size, 0, none⟩ v1) vc cols vsp sp v1 ps1 := by
  have hrow : ∀ b, vp.ownBlock = some b → w4.heap.size ≤ b := fun b hb => h.ps.1 b hb
  have h2 := h.wlt
  have hga : w1.heap[w2.heap.size]? = some (.cells #[vp, .int .i64 0] 83 (0, 0)) := (hg.block _ (blk_lt h.ga) (fun e => by have := hrow _ e.symm; omega)).trans h.ga
  refine ⟨hga, hB.setCell (p := ⟨w2.heap.size, 0, none⟩) (Nat.le_refl _) _, h.wlt, ?_, ?_, ?_, ?_, ?_⟩
  · have : (w1.setCell ⟨w2.heap.size, 0, none⟩ v1).heap.size = w1.heap.size := by simp [World.setCell]
    rw [this]; exact Nat.le_trans h.wle hg.size
  · rw [World.setCell]
    simp only [Array.getElem?_modify, if_true, hga, Option.map_some]
    rfl
  · exact Kd.R_far (Kd.R_grown h.cols hg (fun k hk e => by have := hrow _ e.symm; omega)) (fun k hk => by simp; omega) _
  · exact Kd.R_far (Kd.R_over' h.sp (Kd.R_typed h.ps) (by intro q hq; simp [Kd.int, Kd.scalar] at hq; subst hq; decide) hg) (fun k hk => by simp; omega) _
  · exact Kd.R_far hR (fun k hk => by simp; omega) _
end
theorem alloc_info : (Try.prog.info? 83).map (·.size) = some 2 := by kernel_rfl
theorem alloc_ret {R : Ending → World → Prop} {a : Act} {w : World} (g : Nat) (c0 c1 v : Value) (hp : a.tmps.getD 2 undef = .pointer (some ⟨g, 0, none⟩)) (h3 : a.tmps.getD 3 undef = v) (hg : w.heap[g]? = some (.cells #[c0, c1] 83 (0, 0))) (hd : a.defers = [])
    (hR : R (.returned (.tuple #[.agg #[c0, c1], v])) w) : bodyPost Try.prog Try.f28 R .ret a w := by
  refine bodyPost_ret (v := .tuple #[.agg #[c0, c1], v]) ?_ hd hR
  rw [results_cell_tmp (p := 2) (u := 3) (ty := 83) rfl, hp, h3]
  simp only [asAddr, Sem.run_pure, Result.andThen_ok]
  rw [run_loadVar_row w g 83 83 #[c0, c1] (0, 0) _ hg Try.underlying83 rfl alloc_info]
  rfl
theorem two_set {w : World} {g t : Nat} {c0 c1 : Value} (h : w.heap[g]? = some (.cells #[c0, c1] t (0, 0))) (a b : Value) : ((w.setCell ⟨g, 0, none⟩ a).setCell ⟨g, 1, none⟩ b).heap[g]? = some (.cells #[a, b] t (0, 0)) := by
  simp only [World.setCell, Array.getElem?_modify, if_true, h, Option.map_some]
  rfl
structure L3 (w6 : World) (n : Nat) (k2 : Int) (l : List Int) (v : Value) (w8 : World) : Prop where
  row : Kd.R (Kd.int .i64) 3 w8 w6.heap.size (fun _ => True) v l
  below : Below w6.heap.size w6 w8
theorem info37 : (Try.prog.info? 37).map (fun i => (i.zero, i.size, i.bytes)) = some (some (.slice none 0 0), 1, 24) := by kernel_rfl
/-- the last loop -/
structure St4 (w2 wr : World) (vsp : Value) (sp : List Int) (vc : Value) (cs : List Int) (vp : Value) (ps : List (Int × Int)) (slots : Int) : Prop where
  below : Below w2.heap.size w2 wr
  ga : wr.heap[w2.heap.size]? = some (.cells #[vp, .int .i64 slots] 83 (0, 0))
  sp : Kd.R (Kd.int .i64) 3 wr w2.heap.size (fun k => w2.heap.size < k) vsp sp
  cs : Kd.R (Kd.int .i64) 3 wr w2.heap.size (fun k => w2.heap.size < k) vc cs
  ps : Kd.R kTwo 131 wr w2.heap.size (fun k => w2.heap.size < k) vp ps
section
variable {w2 wr w1 : World} {vsp vc vp : Value} {sp cs : List Int} {ps : List (Int × Int)} {slots : Int}
theorem St4.step (h : St4 w2 wr vsp sp vc cs vp ps slots) (hb : Below wr.heap.size wr w1) : St4 w2 w1 vsp sp vc cs vp ps slots :=
  ⟨below_step h.below hb, blk_below h.ga hb, Kd.R_below h.sp hb, Kd.R_below h.cs hb, Kd.R_below h.ps hb⟩
theorem St4.write {gp n cp : Nat} (h : St4 w2 wr vsp sp vc cs (.slice (some ⟨gp, 0, none⟩) n cp) ps slots) (i : Nat) (a b : Int) (hi : i < ps.length) :
    St4 w2 ((wr.setCell ⟨gp, i * 2, none⟩ (.int .i64 a)).setCell ⟨gp, i * 2 + 1, none⟩ (.int .i64 b)) vsp sp vc cs (.slice (some ⟨gp, 0, none⟩) n cp) (ps.set i (a, b)) slots := by
  have hg : w2.heap.size < gp := h.ps.1 gp rfl
  obtain ⟨cells, hc⟩ := Kd.R_typed h.ps gp rfl
  have ht : ∀ q, q ∈ 3 :: (Kd.int .i64).E → q ≠ 131 := by intro q hq; simp [Kd.int, Kd.scalar] at hq; subst hq; decide
  have h1 : ∀ {v : Value} {xs : List Int}, Kd.R (Kd.int .i64) 3 wr w2.heap.size (fun k => w2.heap.size < k) v xs → Kd.R (Kd.int .i64) 3 ((wr.setCell ⟨gp, i * 2, none⟩ (.int .i64 a)).setCell ⟨gp, i * 2 + 1, none⟩ (.int .i64 b)) w2.heap.size (fun k => w2.heap.size < k) v xs := fun hR => by
    refine Kd.R_mono (Kd.R_far (p := ⟨gp, i * 2 + 1, none⟩) (Kd.R_far (p := ⟨gp, i * 2, none⟩) (Kd.R_types hR hc ht) (fun _ hk => hk.2) _) (fun _ hk => hk.2) _) (fun _ hk => hk.1)
  refine ⟨(h.below.setCell (p := ⟨gp, i * 2, none⟩) (Nat.le_of_lt hg) _).setCell (p := ⟨gp, i * 2 + 1, none⟩) (Nat.le_of_lt hg) _, ?_, h1 h.sp, h1 h.cs, two_stored h.ps i a b hi⟩
  rw [Below.heap_setCell _ _ _ _ (by simp; omega), Below.heap_setCell _ _ _ _ (by simp; omega)]
  exact h.ga
theorem St4.slot (h : St4 w2 wr vsp sp vc cs vp ps slots) (s' : Int) : St4 w2 (wr.setCell ⟨w2.heap.size, 1, none⟩ (.int .i64 s')) vsp sp vc cs vp ps s' := by
  refine ⟨h.below.setCell (p := ⟨w2.heap.size, 1, none⟩) (Nat.le_refl _) _, ?_, Kd.R_far h.sp (fun k hk => by simp; omega) _, Kd.R_far h.cs (fun k hk => by simp; omega) _, Kd.R_far h.ps (fun k hk => by simp; omega) _⟩
  rw [World.setCell]
  simp only [Array.getElem?_modify, if_true, h.ga, Option.map_some]
  rfl
end
set_option maxRecDepth 100000 in
set_option maxHeartbeats 1000000 in
theorem allocate_any (nm : ByteArray) (regs : Int) (A : Option Addr) (n c : Nat) (A3 : Option Addr) (n3 c3 : Nat) (w : World) (hr1 : regs ≤ 10000)
    (hI : ∀ W, Below w.heap.size w W → Calls Try.prog 46 #[.agg #[.string nm, .int .i64 regs, .slice A n c, .slice A3 n3 c3]] W (InterPost regs W)) :
    Calls Try.prog 28 #[.agg #[.string nm, .int .i64 regs, .slice A n c, .slice A3 n3 c3]] w (AllocPost regs w) := by
  have HI := Aside0.mk hI; clear hI
  have hu := Try.underlying25
  have hu2 := Try.underlying83
  have hu3 := Try.underlying131
  have HB0 : Aside0 (Below w.heap.size w ((w.alloc (.cells #[.string nm, .int .i64 regs, .slice A n c, .slice A3 n3 c3] 25)).alloc (.cells #[.slice none 0 0, .int .i64 0] 83))) := ⟨((Below.refl _ _).alloc (Nat.le_refl _) _).alloc (by simp) _⟩
  have BR0 : Aside0 (((w.alloc (.cells #[.string nm, .int .i64 regs, .slice A n c, .slice A3 n3 c3] 25)).alloc (.cells #[.slice none 0 0, .int .i64 0] 83)).heap[w.heap.size + 1]? = some (.cells #[.slice none 0 0, .int .i64 0] 83 (0, 0))) := ⟨heap_alloc_at _ _ _ (by simp)⟩
  go_enter Try.func28, Try.ntmps28
  go_wp2_with fail
  refine (HI.out _ HB0.out).mono ?_
  rintro e w2 ⟨Ae, ce, edges, rfl, hle, hCe, hel, hb2⟩
  have HB2 := Aside0.mk (below_step HB0.out hb2)
  have BR2 := Aside0.mk (blk_below BR0.out hb2)
  have HCE := Aside0.mk hCe
  have HEL := Aside0.mk hel
  have hen : edges.length ≤ 10000 := by omega
  clear HB0 BR0 hb2 hCe hel HI
  have BG3 := blk_new w2 (.cells #[.slice none 0 0, .int .i64 0] 83)
  have HBG3 := Aside0.mk BG3; clear BG3
  have hB23 := below_alloc (Below.refl w2.heap.size w2) (.cells #[.slice none 0 0, .int .i64 0] 83)
  have HC3 := Aside0.mk (color_any Ae ce edges 8 _ (Kd.C_below HCE.out hB23) hle hen (by omega) (by omega))
  have HB23 := Aside0.mk hB23; clear hB23
  go_wp2_with fail
  refine HC3.out.mono ?_
  rintro e w4 ⟨v4, cols, rfl, hR4, hb4, hcl, hcr, _⟩
  obtain ⟨Ac, cc, hv⟩ := Kd.R_slice hR4
  subst hv
  have HR4 := Aside0.mk (Kd.R_lower (base' := w2.heap.size) (Kd.R_mono (ok' := fun k => w2.heap.size < k ∧ k < w4.heap.size) (Kd.R_bound hR4) (fun k hk => ⟨by have := hk.2.1; simp at this; omega, hk.2.2.1⟩)) (by simp))
  have HB4 := Aside0.mk (below_step HB23.out hb4)
  have HBG4 := Aside0.mk (blk_below HBG3.out hb4)
  have HCR := Aside0.mk hcr
  have HCL := Aside0.mk hcl
  have hcn : cols.length ≤ 10000 := by omega
  have HLT := Aside0.mk (blk_lt HBG4.out)
  clear hR4 hb4 hcr hcl HC3 HB23 HBG3
  go_wp2_with fail
  have hlt24 : w2.heap.size < w4.heap.size := HLT.out
  go_loopw [7, 30] (fun v i wr => ∃ k : Int, i = .int .i64 k ∧ 0 ≤ k ∧ k ≤ cols.length ∧ Aside0 (∃ sp ps vp, St1 w2 w4 wr (.slice Ac cols.length cc) cols v sp vp ps ∧ Sp1 k sp ps)) (fun _ i wr => cols.length - (intOf i).toNat)
  case atStart => exact ⟨0, rfl, Int.le_refl _, by omega, ⟨[], [], .slice none 0 0, ⟨HB4.out, hlt24, Nat.le_refl _, HBG4.out, HR4.out, Kd.R_nil _ _ _ _ _, Kd.R_nil _ _ _ _ _⟩, rfl, by simp, by simp, fun j hj => by omega⟩⟩
  case round =>
    obtain ⟨k, rfl, hk0, hk, ⟨sp, ps, vp, hS, hpl⟩⟩ := hrel
    have HS := Aside0.mk hS; have HP1 := Aside0.mk hpl; have HPL := Aside0.mk hpl.1; have HSL := Aside0.mk hpl.2.1
    clear hS hpl
    obtain ⟨As, cs, hv⟩ := Kd.R_slice HS.out.sp
    subst hv
    obtain ⟨Ap, cp, hv⟩ := Kd.R_slice HS.out.ps
    subst hv
    by_cases hlt : k < cols.length
    · have p1 := eq_true hk0
      have q1 := eq_true hlt
      obtain ⟨_, _, hC⟩ := Kd.R_reads' HS.out.cols
      obtain ⟨ad, hA, h0⟩ := Kd.at_int hC k hk0 hlt
      cases hA
      have hcm := HCR.out (rd cols k) (mem_rd hk0 hlt)
      obtain ⟨x, hx⟩ : ∃ x, rd cols k = x := ⟨_, rfl⟩
      rw [hx] at h0 hcm
      obtain ⟨hx0, hx1⟩ := hcm
      clear hC hx
      obtain ⟨g0, g1⟩ := blk2 HS.out.ga
      have hzw := HS.out.wle
      by_cases hneg : x < 0
      · go_wp2_with (first | (at_builtin; refine Kd.R_append (Kd.int .i64) (w0 := w2) w2.heap.size rfl (.tmp 37) (.tmp 39) 37 3 (.int .i64 0) 8 rfl Try.underlying37 info3 rfl (by decide) (by decide) (.slice As sp.length cs) sp k [.int .i64 k] (fun b => w4.heap.size ≤ b) (fun _ => False) rfl rfl ?aP (fun _ hk => hk.elim) ?aF ?aO ?aB ?aS ?aL ?_; (case aP => exact rfl); (case aF => (intro b hb; omega)); (case aO => exact HS.out.sp); (case aB => exact HS.out.below); (case aS => omega); (case aL => (have := HSL.out; omega)); intro v7 w7 hR7 hB7 hg7 hat7; have HS7 := Aside0.mk (HS.out.spill hR7 hB7 hg7); clear hR7 hB7 hg7 hat7 h0 g0 g1 hzw; obtain ⟨g0, g1⟩ := blk2 HS7.out.ga; have hzw := HS7.out.wle) | (at_builtin; refine Kd.R_append kTwo (w0 := w2) w2.heap.size rfl (.tmp 42) (.tmp 46) 81 131 _ 16 rfl Try.underlying81 infoPlace2 rfl (by decide) (by decide) (.slice Ap ps.length cp) ps (2 + x, -1) [.int .i64 (2 + x), .int .i64 (-1)] (fun b => w4.heap.size ≤ b) (fun _ => False) rfl rfl ?bP (fun _ hk => hk.elim) ?bF ?bO ?bB ?bS ?bL ?_; (case bP => exact kTwo_mkM _ _ _ (2 + x, -1)); (case bF => (intro b hb; omega)); (case bO => exact HS7.out.ps); (case bB => exact HS7.out.below); (case bS => omega); (case bL => (have := HPL.out; omega)); intro v8 w8 hR8 hB8 hg8 hat8; obtain ⟨hga8, hS8⟩ := HS7.out.place hR8 hB8 hg8; have HS8 := Aside0.mk hS8; have hf8 : w8.frozen? ⟨w2.heap.size, 0, none⟩ = false := (by simp [World.frozen?, hga8]); clear hR8 hB8 hg8 hat8 hS8 g0 g1 hzw; obtain ⟨g0, g1⟩ := blk2 hga8; obtain ⟨A8, c8, hv8⟩ := Kd.R_slice HS8.out.ps; rw [List.length_append, List.length_singleton] at hv8; subst hv8; clear hga8))
        go_roundw
        case rel => exact ⟨k + 1, rfl, by omega, by omega, ⟨_, _, _, HS8.out, Sp1.spill HP1.out hk0 _⟩⟩
        case measure => simp [intOf]; omega
      · go_wp2_with (at_builtin; refine Kd.R_append kTwo (w0 := w2) w2.heap.size rfl (.tmp 42) (.tmp 46) 81 131 _ 16 rfl Try.underlying81 infoPlace2 rfl (by decide) (by decide) (.slice Ap ps.length cp) ps (2 + x, -1) [.int .i64 (2 + x), .int .i64 (-1)] (fun b => w4.heap.size ≤ b) (fun _ => False) rfl rfl ?bP (fun _ hk => hk.elim) ?bF ?bO ?bB ?bS ?bL ?_; (case bP => exact kTwo_mkM _ _ _ (2 + x, -1)); (case bF => (intro b hb; omega)); (case bO => exact HS.out.ps); (case bB => exact HS.out.below); (case bS => omega); (case bL => (have := HPL.out; omega)); intro v8 w8 hR8 hB8 hg8 hat8; obtain ⟨hga8, hS8⟩ := HS.out.place hR8 hB8 hg8; have HS8 := Aside0.mk hS8; have hf8 : w8.frozen? ⟨w2.heap.size, 0, none⟩ = false := (by simp [World.frozen?, hga8]); clear hR8 hB8 hg8 hat8 hS8 g0 g1 hzw; obtain ⟨g0, g1⟩ := blk2 hga8; obtain ⟨A8, c8, hv8⟩ := Kd.R_slice HS8.out.ps; rw [List.length_append, List.length_singleton] at hv8; subst hv8; clear hga8)
        go_roundw
        case rel => exact ⟨k + 1, rfl, by omega, by omega, ⟨_, _, _, HS8.out, Sp1.reg HP1.out hk0 (p := (2 + x, -1)) (by unfold goodPl; simp; omega)⟩⟩
        case measure => simp [intOf]; omega
    · obtain rfl : k = cols.length := by omega
      clear hlt
      have hsn : sp.length ≤ 10000 := by have := HSL.out; omega
      have HSN2 : Aside0 ((sp.length : Int) ≤ cols.length) := ⟨by have := HSL.out; omega⟩
      go_wp2_with fail
      obtain ⟨w5, rfl⟩ : ∃ w5 : World, w5 = wr := ⟨_, rfl⟩
      go_loopw [10, 52] (fun v i wr => ∃ k : Int, i = .int .i64 k ∧ 0 ≤ k ∧ k ≤ sp.length ∧ Aside0 (∃ inner, Kd.R kRows 37 wr w5.heap.size (fun _ => True) v inner ∧ (inner.length : Int) = k ∧ Below w5.heap.size w5 wr)) (fun _ i wr => sp.length - (intOf i).toNat)
      case atStart => exact ⟨0, rfl, Int.le_refl _, by omega, ⟨[], Kd.R_nil _ _ _ _ _, rfl, Below.refl _ _⟩⟩
      case round =>
        clear hk0 hk
        obtain ⟨k, rfl, hk0, hk, ⟨inner, hR, hil, hB⟩⟩ := hrel
        have HR := Aside0.mk hR; have HIL := Aside0.mk hil; have HB := Aside0.mk hB
        clear hR hil hB
        obtain ⟨Ai, ci, hv⟩ := Kd.R_slice HR.out
        subst hv
        by_cases hlt : k < sp.length
        · have p1 := eq_true hk0
          have q1 := eq_true hlt
          have HSP := Aside0.mk (Kd.R_below HS.out.sp HB.out)
          obtain ⟨_, hspc, hC⟩ := Kd.R_reads' HSP.out
          obtain ⟨ad, hA, h0⟩ := Kd.at_int hC k hk0 hlt
          cases hA
          have hsm := HP1.out.2.2.1 (rd sp k) (mem_rd hk0 hlt)
          obtain ⟨x, hx⟩ : ∃ x, rd sp k = x := ⟨_, rfl⟩
          rw [hx] at h0 hsm
          obtain ⟨hx0, hx1⟩ := hsm
          clear hC hx
          have hxe : x < edges.length := by have := HCL.out; omega
          go_wp2_with fail
          obtain ⟨w6, rfl⟩ : ∃ w6 : World, w6 = wr := ⟨_, rfl⟩
          go_loopw [13, 58] (fun v i wr => ∃ k2 : Int, i = .int .i64 k2 ∧ 0 ≤ k2 ∧ k2 ≤ sp.length ∧ Aside0 (∃ l, Kd.R (Kd.int .i64) 3 wr w6.heap.size (fun _ => True) v l ∧ (l.length : Int) ≤ k2 ∧ Below w6.heap.size w6 wr)) (fun _ i wr => sp.length - (intOf i).toNat)
          case atStart => exact ⟨0, rfl, Int.le_refl _, by omega, ⟨[], Kd.R_nil _ _ _ _ _, by simp, Below.refl _ _⟩⟩
          case round =>
            clear h0
            obtain ⟨k2, rfl, hk20, hk2, ⟨l, hRl, hll, hB6⟩⟩ := hrel
            have HRL := Aside0.mk hRl; have HLL := Aside0.mk hll; have HB6 := Aside0.mk hB6
            clear hRl hll
            obtain ⟨Al, cl, hv⟩ := Kd.R_slice HRL.out
            subst hv
            by_cases hlt2 : k2 < sp.length
            · have p2 := eq_true hk20
              have q2 := eq_true hlt2
              have HE6 := Aside0.mk (Kd.C_below (Kd.C_below HCE.out HS.out.below) (below_step HB.out HB6.out))
              obtain ⟨_, hspc2, hC2⟩ := Kd.R_reads' (Kd.R_below HSP.out HB6.out)
              obtain ⟨ad2, hA2, h2⟩ := Kd.at_int hC2 k2 hk20 hlt2
              cases hA2
              have hsm2 := HP1.out.2.2.1 (rd sp k2) (mem_rd hk20 hlt2)
              obtain ⟨y, hy⟩ : ∃ y, rd sp k2 = y := ⟨_, rfl⟩
              rw [hy] at h2 hsm2
              obtain ⟨hy0, hy1⟩ := hsm2
              clear hC2 hy
              have hye : y < edges.length := by have := HCL.out; omega
              obtain ⟨ad3, A31, c31, hA3, e31, hl31, hr31⟩ := rows_at HE6.out x hx0 hxe
              cases hA3
              obtain ⟨ad4, A41, c41, hA4, e41, hl41, hr41⟩ := rows_at HE6.out y hy0 hye
              cases hA4
              have HR31 := Aside0.mk hr31; have HR41 := Aside0.mk hr41
              clear hr31 hr41
              have px := eq_true hx0
              have qx := eq_true hxe
              have py := eq_true hy0
              have qy := eq_true hye
              go_wp2_with fail
              refine (containsInt_post A31 c31 (rdRow edges x) y _ HR31.out hl31).mono ?_
              rintro e w7 ⟨b1, rfl, hb7⟩
              have HB7 := Aside0.mk hb7; clear hb7
              have HL7 : Aside0 (L3 w6 sp.length k2 l (.slice Al l.length cl) w7) := ⟨Kd.R_below HRL.out HB7.out, below_step HB6.out HB7.out⟩
              replace e41 := pw_cell_below HB7.out e41
              clear h2 e31
              cases b1 with
              | true =>
                  go_wp2_with (at_builtin; refine Kd.R_append (Kd.int .i64) (w0 := w6) w6.heap.size rfl (.tmp 77) (.tmp 79) 37 3 (.int .i64 0) 8 rfl Try.underlying37 info3 rfl (by decide) (by decide) (.slice Al l.length cl) l k2 [.int .i64 k2] (fun _ => True) (fun _ => False) rfl rfl ?dP (fun _ hk => hk.elim) ?dF ?dO ?dB ?dS ?dL ?_; (case dP => exact rfl); (case dF => (intro b hb; trivial)); (case dO => exact HL7.out.row); (case dB => exact HL7.out.below); (case dS => exact HL7.out.below.size); (case dL => (have := HLL.out; omega)); intro v10 w10 hR10 hB10 hg10 hat10; have HR10 := Aside0.mk hR10; have HB10 := Aside0.mk hB10; clear hR10 hB10 hg10 hat10)
                  go_roundw
                  case rel => exact ⟨k2 + 1, rfl, by omega, by omega, ⟨_, HR10.out, by have := HLL.out; simp; omega, HB10.out⟩⟩
                  case measure => simp [intOf]; omega
              | false =>
                go_wp2_with fail
                refine (containsInt_post A41 c41 (rdRow edges y) x _ (Kd.C_below HR41.out HB7.out) hl41).mono ?_
                rintro e w8 ⟨b2, rfl, hb8⟩
                have HB8 := Aside0.mk hb8; clear hb8
                have HL8 : Aside0 (L3 w6 sp.length k2 l (.slice Al l.length cl) w8) := ⟨Kd.R_below HL7.out.row HB8.out, below_step HL7.out.below HB8.out⟩
                clear e41
                cases b2 with
                | true =>
                  go_wp2_with (at_builtin; refine Kd.R_append (Kd.int .i64) (w0 := w6) w6.heap.size rfl (.tmp 77) (.tmp 79) 37 3 (.int .i64 0) 8 rfl Try.underlying37 info3 rfl (by decide) (by decide) (.slice Al l.length cl) l k2 [.int .i64 k2] (fun _ => True) (fun _ => False) rfl rfl ?dP (fun _ hk => hk.elim) ?dF ?dO ?dB ?dS ?dL ?_; (case dP => exact rfl); (case dF => (intro b hb; trivial)); (case dO => exact HL8.out.row); (case dB => exact HL8.out.below); (case dS => exact HL8.out.below.size); (case dL => (have := HLL.out; omega)); intro v10 w10 hR10 hB10 hg10 hat10; have HR10 := Aside0.mk hR10; have HB10 := Aside0.mk hB10; clear hR10 hB10 hg10 hat10)
                  go_roundw
                  case rel => exact ⟨k2 + 1, rfl, by omega, by omega, ⟨_, HR10.out, by have := HLL.out; simp; omega, HB10.out⟩⟩
                  case measure => simp [intOf]; omega
                | false =>
                  go_wp2
                  go_roundw
                  case rel => exact ⟨k2 + 1, rfl, by omega, by omega, ⟨_, HL8.out.row, by have := HLL.out; omega, HL8.out.below⟩⟩
                  case measure => simp [intOf]; omega
            · have hln : l.length ≤ 10000 := by have := HLL.out; omega
              have HBL := Aside0.mk (below_step HB.out HB6.out)
              go_wp2_with (at_builtin; refine Kd.R_append kRows (w0 := w5) w5.heap.size rfl (.tmp 82) (.tmp 84) 126 37 (.slice none 0 0) 24 rfl Try.underlying126 info37 rfl (by decide) (by decide) (.slice Ai inner.length ci) inner l [.slice Al l.length cl] (fun _ => True) (fun b => w6.heap.size ≤ b) rfl rfl ?cP ?cK ?cF ?cO ?cB ?cS ?cL ?_; (case cP => exact ⟨_, rfl, Kd.R_lower (Kd.R_mono (Kd.R_bound HRL.out) (fun b hb => hb.2.1)) HB.out.size⟩); (case cK => (intro b hb; exact ⟨trivial, fun e => by have := Kd.R_lt HR.out b e.symm; omega⟩)); (case cF => (intro b hb; trivial)); (case cO => exact Kd.R_below HR.out HB6.out); (case cB => exact HBL.out); (case cS => (have := HBL.out.size; omega)); (case cL => (have := HIL.out; omega)); intro v9 w9 hR9 hB9 hg9 hat9; have HR9 := Aside0.mk hR9; have HB9 := Aside0.mk hB9; clear hR9 hB9 hg9 hat9)
              go_roundw
              case rel => exact ⟨k + 1, rfl, by omega, by omega, ⟨_, HR9.out, by have := HIL.out; simp; omega, HB9.out⟩⟩
              case measure => simp [intOf]; omega
        · have HIN := Aside0.mk (show inner.length = sp.length by have := HIL.out; omega)
          obtain ⟨_, hic, hiC⟩ := Kd.R_reads' HR.out
          have HIC := Aside0.mk hiC
          have hil : inner.length ≤ 10000 := by have := HIN.out; omega
          clear hiC
          go_wp2_with fail
          refine (color_any Ai ci inner (sp.length : Int) _ HIC.out hic hil (by omega) (by omega)).mono ?_
          rintro e w7 ⟨v7, cols2, rfl, hR7, hb7, hcl2, hcr2, hpos2⟩
          obtain ⟨Ac2, cc2, hv⟩ := Kd.R_slice hR7
          subst hv
          have HCR2 : Aside0 (∀ x ∈ cols2, 0 ≤ x ∧ x < sp.length) := ⟨fun x hx => ⟨hpos2 (by have := HIN.out; omega) x hx, (hcr2 x hx).2⟩⟩
          have HCL2 := Aside0.mk (show cols2.length = sp.length by have := HIN.out; omega)
          have hcn2 : cols2.length ≤ 10000 := by omega
          have HS7 : Aside0 (St4 w2 w7 (.slice As sp.length cs) sp (.slice Ac2 cols2.length cc2) cols2 (.slice Ap ps.length cp) ps 0) := ⟨by
            have hz4 := HS.out.wle
            have hzr := HB.out.size
            have hw4 := HS.out.wlt
            exact ⟨below_step (below_step HS.out.below HB.out) hb7, blk_below (blk_below HS.out.ga HB.out) hb7, Kd.R_mono (Kd.R_below (Kd.R_below HS.out.sp HB.out) hb7) (fun k hk => by omega),
              Kd.R_lower (Kd.R_mono (Kd.R_bound hR7) (fun k hk => by have := hk.2.1; omega)) (by omega), Kd.R_mono (Kd.R_below (Kd.R_below HS.out.ps HB.out) hb7) (fun k hk => by omega)⟩⟩
          have HP4 := Aside0.mk (Sp4.start HP1.out)
          have BR7 := Aside0.mk (show w.heap.size + 1 < w2.heap.size from blk_lt BR2.out)
          clear hR7 hb7 hcl2 hcr2 hpos2 HIC HB HR HIN HIL
          go_wp2_with fail
          go_loopw [92] (fun i wr => ∃ k : Int, i = .int .i64 k ∧ 0 ≤ k ∧ k ≤ cols2.length ∧ Aside0 (∃ ps slots vp, St4 w2 wr (.slice As sp.length cs) sp (.slice Ac2 cols2.length cc2) cols2 vp ps slots ∧ Sp4 cols.length sp k ps slots)) (fun i wr => cols2.length - (intOf i).toNat)
          case atStart => exact ⟨0, rfl, Int.le_refl _, by omega, ⟨ps, 0, _, HS7.out, HP4.out⟩⟩
          case round =>
            clear HS7 HP4 hk0 hk
            obtain ⟨k, rfl, hk0, hk, ⟨ps, slots, vp, hS, hP4⟩⟩ := hrel
            have HS4 := Aside0.mk hS; have HP4 := Aside0.mk hP4; clear hS hP4
            have hlps : (ps.length : Int) = cols.length := HP4.out.1
            have HLP := Aside0.mk hlps; clear hlps
            by_cases hlt : k < cols2.length
            · have p1 := eq_true hk0
              have q1 := eq_true hlt
              obtain ⟨_, hcc, hCc⟩ := Kd.R_reads' HS4.out.cs
              obtain ⟨ad1, hA1, h1⟩ := Kd.at_int hCc k hk0 hlt
              cases hA1
              have hc2 := HCR2.out (rd cols2 k) (mem_rd hk0 hlt)
              obtain ⟨x, hx⟩ : ∃ x, rd cols2 k = x := ⟨_, rfl⟩
              rw [hx] at h1 hc2
              obtain ⟨hx0, hx1⟩ := hc2
              clear hCc hx
              have hlt2 : k < sp.length := by have := HCL2.out; omega
              obtain ⟨_, hspc, hCs⟩ := Kd.R_reads' HS4.out.sp
              obtain ⟨ad2, hA2, h2⟩ := Kd.at_int hCs k hk0 hlt2
              cases hA2
              have hsm := HP4.out.2.2.2.1 (rd sp k) (mem_rd hk0 hlt2)
              have HNX := Aside0.mk (Sp4.next HP4.out hk0 hlt2 hx0 hx1)
              obtain ⟨y, hy⟩ : ∃ y, rd sp k = y := ⟨_, rfl⟩
              rw [hy] at h2 hsm HNX
              obtain ⟨hy0, hy1⟩ := hsm
              clear hCs hy
              have q2 := eq_true hlt2
              obtain ⟨gp, cp4, hvp, hgb, _, _⟩ := Kd.R_form HS4.out.ps (by have := HLP.out; omega)
              subst hvp
              have hyp : y < ps.length := by have := HLP.out; omega
              have py := eq_true hy0
              have qy := eq_true hyp
              have hgg : w2.heap.size < gp := HS4.out.ps.1 gp rfl
              obtain ⟨g0, g1⟩ := blk2 HS4.out.ga
              obtain ⟨ad9, hA9, c90, c91⟩ := atTwo (Kd.R_reads' HS4.out.ps).2.2 y hy0 hyp
              injection hA9 with hA9
              subst hA9
              rw [add_plain] at c90 c91
              obtain ⟨cells9, hc9⟩ := Kd.R_typed HS4.out.ps gp rfl
              have f90 : wr.frozen? ⟨gp, y.toNat * 2, none⟩ = false := by simp [World.frozen?, hc9]
              have f91 : wr.frozen? ⟨gp, y.toNat * 2 + 1, none⟩ = false := by simp [World.frozen?, hc9]
              clear hc9
              have HW9 := Aside0.mk ((HS4.out.write y.toNat 0 x (by omega)).step (below_drew (Below.refl _ _)))
              obtain ⟨W9, hW9⟩ : ∃ W9, ((wr.setCell ⟨gp, y.toNat * 2, none⟩ (.int .i64 0)).setCell ⟨gp, y.toNat * 2 + 1, none⟩ (.int .i64 x)).drew = W9 := ⟨_, rfl⟩
              rw [hW9] at HW9
              obtain ⟨g90, g91⟩ := blk2 HW9.out.ga
              have f92 : W9.frozen? ⟨w2.heap.size, 1, none⟩ = false := by simp [World.frozen?, HW9.out.ga]
              have HW10 := Aside0.mk (HW9.out.slot (mx slots (x + 1)))
              by_cases hmax : slots < x + 1
              · have HMX := Aside0.mk (show mx slots (x + 1) = x + 1 by unfold mx; rw [if_pos hmax])
                rw [HMX.out] at HW10 HNX
                have f93 : wr.frozen? ⟨w2.heap.size, 1, none⟩ = false := by simp [World.frozen?, HS4.out.ga]
                go_wp2_with fail
                go_region
                all_goals
                  go_wp2
                  go_roundw
                  case rel => exact ⟨k + 1, rfl, by omega, by omega, ⟨_, _, _, HW10.out, HNX.out⟩⟩
                  case measure => simp [intOf]; omega
              · have HMX := Aside0.mk (show mx slots (x + 1) = slots by unfold mx; rw [if_neg hmax])
                rw [HMX.out] at HW10 HNX
                have f93 : wr.frozen? ⟨w2.heap.size, 1, none⟩ = false := by simp [World.frozen?, HS4.out.ga]
                go_wp2_with fail
                go_region
                all_goals
                  go_wp2
                  go_roundw
                  case rel => exact ⟨k + 1, rfl, by omega, by omega, ⟨_, _, _, HW10.out, HNX.out⟩⟩
                  case measure => simp [intOf]; omega
            · obtain ⟨Ap9, cp9, hvp⟩ := Kd.R_slice HS4.out.ps
              subst hvp
              have HSG := Aside0.mk (Sp4.done HP4.out (by have := HCL2.out; omega))
              have HSL4 := Aside0.mk HP4.out.2
              obtain ⟨g0, g1⟩ := blk2 HS4.out.ga
              have hbr := blk_below BR2.out HS4.out.below
              have HBR := Aside0.mk hbr
              obtain ⟨r0, r1⟩ := blk2 hbr
              have fr0 : wr.frozen? ⟨w.heap.size + 1, 0, none⟩ = false := by simp [World.frozen?, hbr]
              have fr1 : wr.frozen? ⟨w.heap.size + 1, 1, none⟩ = false := by simp [World.frozen?, hbr]
              clear hbr
              go_wp2
              refine alloc_ret (w.heap.size + 1) (.slice Ap9 ps.length cp9) (.int .i64 slots) (.int .i64 0) rfl rfl (two_set HBR.out _ _) rfl ?_
              have hw2 := BR7.out
              refine ⟨ps, slots, Ap9, cp9, rfl, ?_, ⟨by have := HLP.out; have := HCL.out; have := HEL.out; omega, HSL4.out.1, by have := HSL4.out.2.1; omega, fun p hp => by have := HSG.out p hp; unfold goodPl at this; omega⟩, by have := HSL4.out.2.1; have := HSN2.out; have := HCL.out; have := HEL.out; omega, ((below_then HB2.out HB2.out.size HS4.out.below).setCell (p := ⟨w.heap.size + 1, 0, none⟩) (Nat.le_succ _) _).setCell (p := ⟨w.heap.size + 1, 1, none⟩) (Nat.le_succ _) _⟩
              have := Kd.R_far (Kd.R_far HS4.out.ps (p := ⟨w.heap.size + 1, 0, none⟩) (fun k hk => by simp; omega) (.slice Ap9 ps.length cp9)) (p := ⟨w.heap.size + 1, 1, none⟩) (fun k hk => by simp; omega) (.int .i64 slots)
              exact (Kd.R_reads' this).2.2
end Go.Proofs.Ytadaopfcgpfiiaa
namespace Go.Proofs.Ytadaopfcgpfiiaa
open Go.RowKit Go.Proofs.YtadaopfcgpfiiaaW.PrintWords Go.Proofs.YtadaopfcgpfiiaaW.PrintLast Go.Proofs.YtadaopfcgpfiiaaW.PrintMore PCg
set_option linter.unusedVariables false
set_option linter.unusedSimpArgs false
abbrev kU : Kd Int := Kd.int .u64
abbrev kI : Kd Int := Kd.int .i64
/-- block g of w is a row of n one-cell values of type T: the i-th is v i -/
def RowAt (w : World) (g n T : Nat) (v : Nat → Value) : Prop := ∃ cells : Array Value, w.heap[g]? = some (.cells cells T (0, 0)) ∧ cells.size = n ∧ ∀ i, i < n → cells[i]? = some (v i)
section
variable {w w1 : World} {g n T : Nat} {v : Nat → Value}
theorem RowAt.lt (h : RowAt w g n T v) : g < w.heap.size := by obtain ⟨c, hb, _⟩ := h; exact blk_lt hb
theorem RowAt.step (h : RowAt w g n T v) (h1 : ∀ cells, w.heap[g]? = some (.cells cells T (0, 0)) → w1.heap[g]? = w.heap[g]?) : RowAt w1 g n T v := by
  obtain ⟨c, hb, hr⟩ := h
  exact ⟨c, (h1 c hb).trans hb, hr⟩
theorem RowAt.cell (h : RowAt w g n T v) {i : Nat} (hi : i < n) : w.cell? ⟨g, i, none⟩ = some (v i) := by
  obtain ⟨c, hb, _, hc⟩ := h
  exact (blk_cell hb i).trans (hc i hi)
theorem RowAt.free (h : RowAt w g n T v) (i : Nat) : w.frozen? ⟨g, i, none⟩ = false := by
  obtain ⟨c, hb, _⟩ := h
  simp [World.frozen?, hb]
theorem RowAt.set (h : RowAt w g n T v) {i : Nat} (hi : i < n) (x : Value) : RowAt (w.setCell ⟨g, i, none⟩ x) g n T (upd v i x) := by
  obtain ⟨c, hb, hsz, hc⟩ := h
  refine ⟨c.setIfInBounds i x, ?_, by simp [hsz], fun j hj => ?_⟩
  · rw [World.setCell]
    simp only [Array.getElem?_modify, if_true, hb, Option.map_some]
    rfl
  · rw [Array.getElem?_setIfInBounds]
    by_cases e : i = j
    · subst e; rw [if_pos rfl, if_pos (by omega), upd_same]
    · rw [if_neg e, upd_ne _ _ (fun h => e h.symm)]; exact hc j hj
theorem rowAt_made (w : World) (n T : Nat) (z : Value) : RowAt (w.alloc (.cells (madeCells #[z] n) T)) w.heap.size n T (fun _ => z) := by
  refine ⟨madeCells #[z] n, blk_new w _, by simp [size_madeCells], fun i hi => ?_⟩
  have h1 : i < (madeCells #[z] n).size := by simp [size_madeCells]; exact hi
  rw [Array.getElem?_eq_getElem h1]
  simp [madeCells, Nat.mod_one]
end
/-- the solver's memory, but for what X holds. lab tells a block's owner: 4 i + 1, 4 i + 2, 4 i + 3: the i-th row of in, out, prev; 0: work; 4, 8, 12: the rows themselves -/
structure SolveEx (X : Nat → Prop) (w wr : World) (gi go gp n : Nat) (lab : Nat → Nat) (vi vo vp : Nat → Value) (ins outs prevs : Nat → List Int) (vk : Value) (work : List Int) : Prop where
  below : Below w.heap.size w wr
  ri : ¬ X 4 → RowAt wr gi n 159 vi
  ro : ¬ X 8 → RowAt wr go n 159 vo
  rp : ¬ X 12 → RowAt wr gp n 37 vp
  li : ∀ i, i < n → ¬ X (4 * i + 1) → kU.R 191 wr w.heap.size (fun b => lab b = 4 * i + 1) (vi i) (ins i)
  lo : ∀ i, i < n → ¬ X (4 * i + 2) → kU.R 191 wr w.heap.size (fun b => lab b = 4 * i + 2) (vo i) (outs i)
  lp : ∀ i, i < n → ¬ X (4 * i + 3) → kI.R 3 wr w.heap.size (fun b => lab b = 4 * i + 3) (vp i) (prevs i)
  lk : ¬ X 0 → kI.R 3 wr w.heap.size (fun b => lab b = 0) vk work
  gi : lab gi = 4 ∧ w.heap.size ≤ gi ∧ gi < wr.heap.size
  go : lab go = 8 ∧ w.heap.size ≤ go ∧ go < wr.heap.size
  gp : lab gp = 12 ∧ w.heap.size ≤ gp ∧ gp < wr.heap.size
theorem R_keep {α : Type} {d : Kd α} {e base : Nat} {ok : Nat → Prop} {wr w1 : World} {v : Value} {xs : List α} (h : d.R e wr base ok v xs) (hk : ∀ k cells t, wr.heap[k]? = some (.cells cells t (0, 0)) → ok k → w1.heap[k]? = wr.heap[k]?) : d.R e w1 base ok v xs :=
  Kd.R_mono (Kd.R_move (Kd.R_bound h) (fun k hk2 => by
    obtain ⟨h1, _, _, q, _, cells, hc⟩ := hk2
    exact hk k cells q hc h1)) (fun _ hk => hk.1)
section
variable {X Y : Nat → Prop} {w wr w1 : World} {gi go gp n : Nat} {lab : Nat → Nat} {vi vo vp : Nat → Value} {ins outs prevs : Nat → List Int} {vk : Value} {work : List Int}
/-- an event keeps what is not in Y -/
theorem SolveEx.step (h : SolveEx X w wr gi go gp n lab vi vo vp ins outs prevs vk work) (hXY : ∀ l, X l → Y l) (hb : Below w.heap.size w w1) (hs : wr.heap.size ≤ w1.heap.size)
    (hk : ∀ k cells t, wr.heap[k]? = some (.cells cells t (0, 0)) → ¬ Y (lab k) → w1.heap[k]? = wr.heap[k]?) : SolveEx Y w w1 gi go gp n lab vi vo vp ins outs prevs vk work where
  below := hb
  ri := fun hy => (h.ri (fun hx => hy (hXY _ hx))).step (fun cells hc => hk _ cells _ hc (by rw [h.gi.1]; exact hy))
  ro := fun hy => (h.ro (fun hx => hy (hXY _ hx))).step (fun cells hc => hk _ cells _ hc (by rw [h.go.1]; exact hy))
  rp := fun hy => (h.rp (fun hx => hy (hXY _ hx))).step (fun cells hc => hk _ cells _ hc (by rw [h.gp.1]; exact hy))
  li := fun i hi hy => R_keep (h.li i hi (fun hx => hy (hXY _ hx))) (fun k cells t hc ho => hk k cells t hc (by rw [ho]; exact hy))
  lo := fun i hi hy => R_keep (h.lo i hi (fun hx => hy (hXY _ hx))) (fun k cells t hc ho => hk k cells t hc (by rw [ho]; exact hy))
  lp := fun i hi hy => R_keep (h.lp i hi (fun hx => hy (hXY _ hx))) (fun k cells t hc ho => hk k cells t hc (by rw [ho]; exact hy))
  lk := fun hy => R_keep (h.lk (fun hx => hy (hXY _ hx))) (fun k cells t hc ho => hk k cells t hc (by rw [ho]; exact hy))
  gi := ⟨h.gi.1, h.gi.2.1, by have := h.gi.2.2; omega⟩
  go := ⟨h.go.1, h.go.2.1, by have := h.go.2.2; omega⟩
  gp := ⟨h.gp.1, h.gp.2.1, by have := h.gp.2.2; omega⟩
theorem SolveEx.after (h : SolveEx X w wr gi go gp n lab vi vo vp ins outs prevs vk work) (hb : Below wr.heap.size wr w1) : SolveEx X w w1 gi go gp n lab vi vo vp ins outs prevs vk work :=
  h.step (fun _ hx => hx) (below_step h.below hb) hb.size (fun k cells t hc _ => hb.block k (blk_lt hc))
theorem SolveEx.grown (h : SolveEx X w wr gi go gp n lab vi vo vp ins outs prevs vk work) {row : Option Nat} {L : Nat} (hg : wr.grownBy w1 row) (hr : ∀ b, row = some b → lab b = L ∧ w.heap.size ≤ b) : SolveEx (fun l => X l ∨ l = L) w w1 gi go gp n lab vi vo vp ins outs prevs vk work :=
  h.step (fun _ hx => .inl hx) (h.below.grown hg (by have := h.gi; omega) (fun k e => (hr k e).2)) hg.size (fun k cells t hc hy => hg.block k (blk_lt hc) (fun e => hy (.inr (hr k e.symm).1)))
theorem SolveEx.kept (h : SolveEx X w wr gi go gp n lab vi vo vp ins outs prevs vk work) {L : Nat} {S : Nat → Prop} (hk : Kept wr w1 S) (hS : ∀ k, S k → lab k = L) (hb : Below w.heap.size w w1) : SolveEx (fun l => X l ∨ l = L) w w1 gi go gp n lab vi vo vp ins outs prevs vk work :=
  h.step (fun _ hx => .inl hx) hb hk.1 (fun k cells t hc hy => hk.2 k (blk_lt hc) (fun e => hy (.inr (hS k e))))
/-- what is no cells may turn -/
theorem SolveEx.own (h : SolveEx X w wr gi go gp n lab vi vo vp ins outs prevs vk work) {row : Option Nat} (hg : wr.grownBy w1 row) (hr : ∀ r, row = some r → w.heap.size ≤ r ∧ ∃ o : Obj, wr.heap[r]? = some o ∧ o.isCells = false) : SolveEx X w w1 gi go gp n lab vi vo vp ins outs prevs vk work :=
  h.step (fun _ hx => hx) (h.below.grown hg (by have := h.gi; omega) (fun k e => (hr k e).1)) hg.size (fun k cells t hc hy => hg.block k (blk_lt hc) (fun e => by
    obtain ⟨_, o, ho, hc2⟩ := hr k e.symm
    rw [hc] at ho
    injection ho with ho
    subst ho
    cases hc2))
theorem SolveEx.relabel (h : SolveEx X w wr gi go gp n lab vi vo vp ins outs prevs vk work) {lab' : Nat → Nat} (hl : ∀ k, k < wr.heap.size → ¬ Y (lab k) → lab' k = lab k) (hXY : ∀ l, X l → Y l) (h4 : lab' gi = 4) (h8 : lab' go = 8) (h12 : lab' gp = 12) : SolveEx Y w wr gi go gp n lab' vi vo vp ins outs prevs vk work where
  below := h.below
  ri := fun hy => h.ri (fun hx => hy (hXY _ hx))
  ro := fun hy => h.ro (fun hx => hy (hXY _ hx))
  rp := fun hy => h.rp (fun hx => hy (hXY _ hx))
  li := fun i hi hy => Kd.R_mono (Kd.R_bound (h.li i hi (fun hx => hy (hXY _ hx)))) (fun k hk => by rw [hl k hk.2.2.1 (by rw [hk.1]; exact hy)]; exact hk.1)
  lo := fun i hi hy => Kd.R_mono (Kd.R_bound (h.lo i hi (fun hx => hy (hXY _ hx)))) (fun k hk => by rw [hl k hk.2.2.1 (by rw [hk.1]; exact hy)]; exact hk.1)
  lp := fun i hi hy => Kd.R_mono (Kd.R_bound (h.lp i hi (fun hx => hy (hXY _ hx)))) (fun k hk => by rw [hl k hk.2.2.1 (by rw [hk.1]; exact hy)]; exact hk.1)
  lk := fun hy => Kd.R_mono (Kd.R_bound (h.lk (fun hx => hy (hXY _ hx)))) (fun k hk => by rw [hl k hk.2.2.1 (by rw [hk.1]; exact hy)]; exact hk.1)
  gi := ⟨h4, h.gi.2⟩
  go := ⟨h8, h.go.2⟩
  gp := ⟨h12, h.gp.2⟩
/-- all new blocks belong to L -/
def labN (lab : Nat → Nat) (N L : Nat) : Nat → Nat := fun k => if k < N then lab k else L
theorem labN_lt {lab : Nat → Nat} {N L k : Nat} (h : k < N) : labN lab N L k = lab k := if_pos h
theorem labN_ge {lab : Nat → Nat} {N L k : Nat} (h : N ≤ k) : labN lab N L k = L := if_neg (by omega)
theorem SolveEx.fresh (h : SolveEx X w wr gi go gp n lab vi vo vp ins outs prevs vk work) (L : Nat) : SolveEx X w wr gi go gp n (labN lab wr.heap.size L) vi vo vp ins outs prevs vk work :=
  h.relabel (fun k hk _ => labN_lt hk) (fun _ hx => hx) ((labN_lt h.gi.2.2).trans h.gi.1) ((labN_lt h.go.2.2).trans h.go.1) ((labN_lt h.gp.2.2).trans h.gp.1)
/-- fewer are left out -/
theorem SolveEx.putK (h : SolveEx (fun l => X l ∨ l = 0) w wr gi go gp n lab vi vo vp ins outs prevs vk work) {v : Value} {k2 : List Int} (hR : kI.R 3 wr w.heap.size (fun b => lab b = 0) v k2) : SolveEx X w wr gi go gp n lab vi vo vp ins outs prevs v k2 where
  below := h.below
  ri := fun hx => h.ri (fun hy => hy.elim hx (by omega))
  ro := fun hx => h.ro (fun hy => hy.elim hx (by omega))
  rp := fun hx => h.rp (fun hy => hy.elim hx (by omega))
  li := fun i hi hx => h.li i hi (fun hy => hy.elim hx (by omega))
  lo := fun i hi hx => h.lo i hi (fun hy => hy.elim hx (by omega))
  lp := fun i hi hx => h.lp i hi (fun hy => hy.elim hx (by omega))
  lk := fun _ => hR
  gi := h.gi
  go := h.go
  gp := h.gp
theorem SolveEx.putO {b : Nat} (h : SolveEx (fun l => X l ∨ l = 4 * b + 2) w wr gi go gp n lab vi vo vp ins outs prevs vk work) {s : List Int} (hR : kU.R 191 wr w.heap.size (fun k => lab k = 4 * b + 2) (vo b) s) : SolveEx X w wr gi go gp n lab vi vo vp ins (upd outs b s) prevs vk work where
  below := h.below
  ri := fun hx => h.ri (fun hy => hy.elim hx (by omega))
  ro := fun hx => h.ro (fun hy => hy.elim hx (by omega))
  rp := fun hx => h.rp (fun hy => hy.elim hx (by omega))
  li := fun i hi hx => h.li i hi (fun hy => hy.elim hx (by omega))
  lo := fun i hi hx => by
    by_cases e : i = b
    · subst e; rw [upd_same]; exact hR
    · rw [upd_ne _ _ e]; exact h.lo i hi (fun hy => hy.elim hx (by omega))
  lp := fun i hi hx => h.lp i hi (fun hy => hy.elim hx (by omega))
  lk := fun hx => h.lk (fun hy => hy.elim hx (by omega))
  gi := h.gi
  go := h.go
  gp := h.gp
/-- the i-th row of prev has grown, and its value has been stored -/
theorem SolveEx.putP {t : Nat} (h : SolveEx (fun l => X l ∨ l = 4 * t + 3) w wr gi go gp n lab vi vo vp ins outs prevs vk work) (ht : t < n) (h12 : ¬ X 12) {v : Value} {s : List Int} (hR : kI.R 3 wr w.heap.size (fun k => lab k = 4 * t + 3) v s) :
    SolveEx X w (wr.setCell ⟨gp, t, none⟩ v) gi go gp n lab vi vo (upd vp t v) ins outs (upd prevs t s) vk work := by
  have hrp := h.rp (fun hy => hy.elim h12 (by omega))
  have hk : ∀ k, lab k ≠ 12 → (wr.setCell ⟨gp, t, none⟩ v).heap[k]? = wr.heap[k]? := fun k hk => Below.heap_setCell _ _ _ k (fun e => hk (by rw [e]; exact h.gp.1))
  have hsz : (wr.setCell ⟨gp, t, none⟩ v).heap.size = wr.heap.size := by simp [World.setCell]
  exact {
    below := h.below.setCell (p := ⟨gp, t, none⟩) h.gp.2.1 _
    ri := fun hx => (h.ri (fun hy => hy.elim hx (by omega))).step (fun _ _ => hk _ (by rw [h.gi.1]; omega))
    ro := fun hx => (h.ro (fun hy => hy.elim hx (by omega))).step (fun _ _ => hk _ (by rw [h.go.1]; omega))
    rp := fun _ => hrp.set ht v
    li := fun i hi hx => R_keep (h.li i hi (fun hy => hy.elim hx (by omega))) (fun k _ _ _ ho => hk k (by rw [ho]; omega))
    lo := fun i hi hx => R_keep (h.lo i hi (fun hy => hy.elim hx (by omega))) (fun k _ _ _ ho => hk k (by rw [ho]; omega))
    lp := fun i hi hx => by
      by_cases e : i = t
      · subst e; rw [upd_same, upd_same]; exact R_keep hR (fun k _ _ _ ho => hk k (by rw [ho]; omega))
      · rw [upd_ne _ _ e, upd_ne _ _ e]; exact R_keep (h.lp i hi (fun hy => hy.elim hx (by omega))) (fun k _ _ _ ho => hk k (by rw [ho]; omega))
    lk := fun hx => R_keep (h.lk (fun hy => hy.elim hx (by omega))) (fun k _ _ _ ho => hk k (by rw [ho]; omega))
    gi := ⟨h.gi.1, h.gi.2.1, by rw [hsz]; exact h.gi.2.2⟩
    go := ⟨h.go.1, h.go.2.1, by rw [hsz]; exact h.go.2.2⟩
    gp := ⟨h.gp.1, h.gp.2.1, by rw [hsz]; exact h.gp.2.2⟩ }
/-- a new value has been stored as the b-th row of in -/
theorem SolveEx.putI {b : Nat} (h : SolveEx (fun l => X l ∨ l = 4 * b + 1) w wr gi go gp n lab vi vo vp ins outs prevs vk work) (hb : b < n) (h4 : ¬ X 4) {v : Value} {s : List Int} (hR : kU.R 191 wr w.heap.size (fun k => lab k = 4 * b + 1) v s) :
    SolveEx X w (wr.setCell ⟨gi, b, none⟩ v) gi go gp n lab (upd vi b v) vo vp (upd ins b s) outs prevs vk work := by
  have hri := h.ri (fun hy => hy.elim h4 (by omega))
  have hk : ∀ k, lab k ≠ 4 → (wr.setCell ⟨gi, b, none⟩ v).heap[k]? = wr.heap[k]? := fun k hk => Below.heap_setCell _ _ _ k (fun e => hk (by rw [e]; exact h.gi.1))
  have hsz : (wr.setCell ⟨gi, b, none⟩ v).heap.size = wr.heap.size := by simp [World.setCell]
  exact {
    below := h.below.setCell (p := ⟨gi, b, none⟩) h.gi.2.1 _
    ri := fun _ => hri.set hb v
    ro := fun hx => (h.ro (fun hy => hy.elim hx (by omega))).step (fun _ _ => hk _ (by rw [h.go.1]; omega))
    rp := fun hx => (h.rp (fun hy => hy.elim hx (by omega))).step (fun _ _ => hk _ (by rw [h.gp.1]; omega))
    li := fun i hi hx => by
      by_cases e : i = b
      · subst e; rw [upd_same, upd_same]; exact R_keep hR (fun k _ _ _ ho => hk k (by rw [ho]; omega))
      · rw [upd_ne _ _ e, upd_ne _ _ e]; exact R_keep (h.li i hi (fun hy => hy.elim hx (by omega))) (fun k _ _ _ ho => hk k (by rw [ho]; omega))
    lo := fun i hi hx => R_keep (h.lo i hi (fun hy => hy.elim hx (by omega))) (fun k _ _ _ ho => hk k (by rw [ho]; omega))
    lp := fun i hi hx => R_keep (h.lp i hi (fun hy => hy.elim hx (by omega))) (fun k _ _ _ ho => hk k (by rw [ho]; omega))
    lk := fun hx => R_keep (h.lk (fun hy => hy.elim hx (by omega))) (fun k _ _ _ ho => hk k (by rw [ho]; omega))
    gi := ⟨h.gi.1, h.gi.2.1, by rw [hsz]; exact h.gi.2.2⟩
    go := ⟨h.go.1, h.go.2.1, by rw [hsz]; exact h.go.2.2⟩
    gp := ⟨h.gp.1, h.gp.2.1, by rw [hsz]; exact h.gp.2.2⟩ }
/-- a new value has been stored as the b-th row of out -/
theorem SolveEx.putOv {b : Nat} (h : SolveEx (fun l => X l ∨ l = 4 * b + 2) w wr gi go gp n lab vi vo vp ins outs prevs vk work) (hb : b < n) (h8 : ¬ X 8) {v : Value} {s : List Int} (hR : kU.R 191 wr w.heap.size (fun k => lab k = 4 * b + 2) v s) :
    SolveEx X w (wr.setCell ⟨go, b, none⟩ v) gi go gp n lab vi (upd vo b v) vp ins (upd outs b s) prevs vk work := by
  have hro := h.ro (fun hy => hy.elim h8 (by omega))
  have hk : ∀ k, lab k ≠ 8 → (wr.setCell ⟨go, b, none⟩ v).heap[k]? = wr.heap[k]? := fun k hk => Below.heap_setCell _ _ _ k (fun e => hk (by rw [e]; exact h.go.1))
  have hsz : (wr.setCell ⟨go, b, none⟩ v).heap.size = wr.heap.size := by simp [World.setCell]
  exact {
    below := h.below.setCell (p := ⟨go, b, none⟩) h.go.2.1 _
    ri := fun hx => (h.ri (fun hy => hy.elim hx (by omega))).step (fun _ _ => hk _ (by rw [h.gi.1]; omega))
    ro := fun _ => hro.set hb v
    rp := fun hx => (h.rp (fun hy => hy.elim hx (by omega))).step (fun _ _ => hk _ (by rw [h.gp.1]; omega))
    li := fun i hi hx => R_keep (h.li i hi (fun hy => hy.elim hx (by omega))) (fun k _ _ _ ho => hk k (by rw [ho]; omega))
    lo := fun i hi hx => by
      by_cases e : i = b
      · subst e; rw [upd_same, upd_same]; exact R_keep hR (fun k _ _ _ ho => hk k (by rw [ho]; omega))
      · rw [upd_ne _ _ e, upd_ne _ _ e]; exact R_keep (h.lo i hi (fun hy => hy.elim hx (by omega))) (fun k _ _ _ ho => hk k (by rw [ho]; omega))
    lp := fun i hi hx => R_keep (h.lp i hi (fun hy => hy.elim hx (by omega))) (fun k _ _ _ ho => hk k (by rw [ho]; omega))
    lk := fun hx => R_keep (h.lk (fun hy => hy.elim hx (by omega))) (fun k _ _ _ ho => hk k (by rw [ho]; omega))
    gi := ⟨h.gi.1, h.gi.2.1, by rw [hsz]; exact h.gi.2.2⟩
    go := ⟨h.go.1, h.go.2.1, by rw [hsz]; exact h.go.2.2⟩
    gp := ⟨h.gp.1, h.gp.2.1, by rw [hsz]; exact h.gp.2.2⟩ }
end
end Go.Proofs.Ytadaopfcgpfiiaa
