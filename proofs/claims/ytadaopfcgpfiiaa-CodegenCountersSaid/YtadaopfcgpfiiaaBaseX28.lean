/- Lemmas: what the theorem of the claim's last text needs, joined by a program out of the seat's texts F4, F5, F6, F7. -/
import Derived.Test.YtadaopfcgpfiiaaBaseX27
import Derived.Maps.OwnSet
import Derived.Test.YtadaopfcgpfiiaaBaseX13
import Derived.Test.YtadaopfcgpfiiaaBaseX20
import Derived.Test.YtadaopfcgpfiiaaBaseX14
namespace Go.Proofs.Ytadaopfcgpfiiaa
open Go.RowKit Go.Proofs.YtadaopfcgpfiiaaW.PrintWords Go.Proofs.YtadaopfcgpfiiaaW.PrintLast Go.Proofs.YtadaopfcgpfiiaaW.PrintMore PCg
set_option linter.unusedVariables false
set_option linter.unusedSimpArgs false
def OrderPost (n : Nat) (w : World) (e : Ending) (w' : World) : Prop :=
  ∃ v order, e = .returned v ∧ Kd.R (Kd.int .i64) 3 w' w.heap.size (fun _ => True) v order ∧ Below w.heap.size w w' ∧ order.length = n ∧ (∀ x ∈ order, 0 ≤ x ∧ x < n) ∧ (∀ i, i < n → (i : Int) ∈ order)
/-- what remove's loops keep: its three rows, and that all else is as it was -/
structure RemSt (w wr : World) (n : Nat) (ds : List Int) (bs : List Bool) : Prop where
  below : Below w.heap.size w wr
  deg : IntBlk wr w.heap.size ds
  gone : BoolBlk wr (w.heap.size + 1) bs
  dlen : ds.length = n
section
variable {w wr w1 : World} {n : Nat} {ds : List Int} {bs : List Bool}
theorem RemSt.step (h : RemSt w wr n ds bs) (hb : Below wr.heap.size wr w1) : RemSt w w1 n ds bs :=
  ⟨below_step h.below hb, h.deg.below hb, h.gone.below hb, h.dlen⟩
theorem RemSt.grown (h : RemSt w wr n ds bs) {row : Option Nat} (hg : wr.grownBy w1 row) (hr : ∀ k, row = some k → w.heap.size + 2 ≤ k) : RemSt w w1 n ds bs := by
  have h1 := h.gone.lt
  exact ⟨h.below.grown hg (by omega) (fun k e => by have := hr k e; omega), h.deg.step (hg.block _ h.deg.lt (fun e => by have := hr _ e.symm; omega)), h.gone.step (hg.block _ h.gone.lt (fun e => by have := hr _ e.symm; omega)), h.dlen⟩
theorem RemSt.setDeg (h : RemSt w wr n ds bs) (i : Nat) (x : Int) : RemSt w (wr.setCell ⟨w.heap.size, i, none⟩ (.int .i64 x)) n (ds.set i x) bs :=
  ⟨h.below.setCell (p := ⟨w.heap.size, i, none⟩) (Nat.le_refl _) _, h.deg.set i x, h.gone.far (by omega) _, by simp [h.dlen]⟩
theorem RemSt.setGone (h : RemSt w wr n ds bs) (i : Nat) (x : Bool) : RemSt w (wr.setCell ⟨w.heap.size + 1, i, none⟩ (.bool x)) n ds (bs.set i x) :=
  ⟨h.below.setCell (p := ⟨w.heap.size + 1, i, none⟩) (Nat.le_succ _) _, h.deg.far (by omega) _, h.gone.set i x, h.dlen⟩
theorem remSt_start (w : World) (n : Nat) : RemSt w ((w.alloc (.cells (madeCells #[.int .i64 0] n) 3)).alloc (.cells (madeCells #[.bool false] n) 4)) n (List.replicate n 0) (List.replicate n false) := by
  have h2 := boolBlk_made (w.alloc (.cells (madeCells #[.int .i64 0] n) 3)) n
  rw [World.size_alloc] at h2
  exact ⟨below_alloc (below_alloc (Below.refl _ _) _) _, (intBlk_made w n).below (below_alloc (Below.refl _ _) _), h2, by simp⟩
end
structure PickRel (w5 : World) (n : Nat) (bs : List Bool) (q k3 : Int) (wr : World) : Prop where
  k0 : 0 ≤ k3
  k1 : k3 ≤ n
  q0 : -1 ≤ q
  q1 : q < n
  yes : 0 ≤ q → goneAt bs q.toNat = false
  no : q = -1 → ∀ j : Nat, (j : Int) < k3 → goneAt bs j = true
  below : Below w5.heap.size w5 wr
theorem remOrder {w W : World} {v : Value} {xs : List Int} (h : Kd.R (Kd.int .i64) 3 W w.heap.size (fun b => w.heap.size + 2 ≤ b) v xs) (i : Nat) (x : Bool) :
    Kd.R (Kd.int .i64) 3 (W.setCell ⟨w.heap.size + 1, i, none⟩ (.bool x)) w.heap.size (fun b => w.heap.size + 2 ≤ b) v xs :=
  Kd.R_step h (fun k hk _ => Below.heap_setCell W _ _ k (by simp; omega))
section
variable {ops : Array Oper} {rest : List Oper} {o : Oper} {a : Act} {Q : Exit → Act → World → Prop} {w : World}
theorem wpList_len_mset (hg : o.guard = none) (m : Operand) (hop : o.op = Op.call { callee := Callee.builtin Builtin.len, args := #[m], argTypes := #[169] })
    (b : Nat) (es : Array MapEntry) (cl : Nat) (hm : a.eval m = .map (some b)) (hb : w.heap[b]? = some (.map es cl)) (hK : wpList Try.prog ops Q rest (a.put o.dst (.int .i64 es.size)) w) :
    wpList Try.prog ops Q (o :: rest) a w := by
  refine wpList_plain hg fun K' hK' => ?_
  have hl : (Builtin.len_ #[169] o.type #[.map (some b)]).run Try.prog w = .ok (.int .i64 es.size) w := by
    simp [Builtin.len_, run_underlying Try.underlying169, MapKept.run_getObj_map hb, goInt, Result.andThen]
  unfold Oper.wp
  simp [execOp, hop, resolve, invoke, builtin, hm, hl, Result.andThen]
  exact hK' _ _ hK
end
set_option maxRecDepth 100000 in
set_option maxHeartbeats 600000 in
theorem remove_any (base g n : Nat) (mb : Nat → Nat) (K : Nat → List Int) (colors : Int) (w : World) (hA : Adj w base g n n mb K) (hn : n ≤ 10000) :
    Calls Try.prog 73 #[.slice (some ⟨g, 0, none⟩) n n, .int .i64 colors] w (OrderPost n w) := by
  have HA := Aside0.mk hA; clear hA
  have hmk := make_ints n (by omega)
  have hmk2 := make_bools n (by omega)
  have HS0 := Aside0.mk (remSt_start w n)
  go_enter Try.func73, Try.ntmps73
  go_wp2_with fail
  go_loopw [21] (fun i wr => ∃ k : Int, i = .int .i64 k ∧ 0 ≤ k ∧ k ≤ n ∧ Aside0 (∃ ds, RemSt w wr n ds (List.replicate n false))) (fun i wr => n - (intOf i).toNat)
  case atStart => exact ⟨0, rfl, Int.le_refl _, by omega, ⟨_, HS0.out⟩⟩
  case round =>
    obtain ⟨k, rfl, hk0, hk, ⟨ds, hS⟩⟩ := hrel
    have HS := Aside0.mk hS; clear hS
    by_cases hlt : k < n
    · have p1 := eq_true hk0
      have q1 := eq_true hlt
      have HAr := Aside0.mk (HA.out.below HS.out.below)
      have y0 := HAr.out.cell (i := k.toNat) (by omega)
      obtain ⟨es, cl, hmb, _⟩ := HAr.out.maps k.toNat (by omega)
      have c0 := HS.out.deg.cell k hk0 (by have := HS.out.dlen; omega)
      have f0 := HS.out.deg.free k.toNat
      have HMB := Aside0.mk hmb
      clear hmb
      go_wp2_with (at_len; refine wpList_len_mset rfl (.tmp 28) rfl (mb k.toNat) es cl rfl HMB.out ?_)
      go_roundw
      case rel => exact ⟨k + 1, rfl, by omega, by omega, ⟨_, HS.out.setDeg _ _⟩⟩
      case measure => simp [intOf]; omega
    · obtain rfl : k = n := by omega
      clear hlt
      go_wp2_with fail
      go_loopw [9, 34] (fun v i wr => ∃ k : Int, i = .int .i64 k ∧ 0 ≤ k ∧ k ≤ n ∧ Aside0 (∃ ds bs order, RemSt w wr n ds bs ∧ Gone n bs order ∧ (order.length : Int) = k ∧ Kd.R (Kd.int .i64) 3 wr w.heap.size (fun b => w.heap.size + 2 ≤ b) v order)) (fun _ i wr => n - (intOf i).toNat)
      case atStart => exact ⟨0, rfl, Int.le_refl _, by omega, ⟨_, _, _, HS.out, gone_start n, rfl, Kd.R_nil _ _ _ _ _⟩⟩
      case round =>
        clear HS
        obtain ⟨k, rfl, hk0, hk, ⟨ds, bs, order, hS, hG, hol, hO⟩⟩ := hrel
        have HS := Aside0.mk hS; have HG := Aside0.mk hG; have HO := Aside0.mk hO; have HOL := Aside0.mk hol
        clear hS hG hO hol
        obtain ⟨Av, cv, hv⟩ := Kd.R_slice HO.out
        subst hv
        by_cases hlt : k < n
        · go_wp2_with fail
          obtain ⟨w5, rfl⟩ : ∃ w5 : World, w5 = wr := ⟨_, rfl⟩
          go_loopw [10, 38] (fun p i wr => ∃ q k3 : Int, p = .int .i64 q ∧ i = .int .i64 k3 ∧ 0 ≤ k3 ∧ k3 ≤ n ∧ -1 ≤ q ∧ q < n ∧ Aside0 (0 ≤ q → goneAt bs q.toNat = false) ∧ Aside0 (q = -1 → ∀ j : Nat, (j : Int) < k3 → goneAt bs j = true) ∧ Aside0 (Below w5.heap.size w5 wr)) (fun _ i wr => n - (intOf i).toNat)
          case atStart => exact ⟨-1, 0, rfl, rfl, Int.le_refl _, by omega, by omega, by omega, ⟨fun h => by omega⟩, ⟨fun _ j hj => by omega⟩, ⟨Below.refl _ _⟩⟩
          case round =>
            obtain ⟨q, k3, rfl, rfl, hk30, hk3, hq0, hq1, HQ, HN, HB3⟩ := hrel
            by_cases hlt3 : k3 < n
            · have p3 := eq_true hk30
              have q3 := eq_true hlt3
              have HSr := Aside0.mk (HS.out.step HB3.out)
              have c0 := HSr.out.deg.cell k3 hk30 (by have := HSr.out.dlen; omega)
              have g0 := HSr.out.gone.cell k3 hk30 (by have := HG.out.len; omega)
              cases hgk : bs.getD k3.toNat false with
              | true =>
                rw [hgk] at g0
                have HGK := Aside0.mk hgk; clear hgk
                go_wp2
                go_roundw
                case rel =>
                  refine ⟨q, k3 + 1, rfl, rfl, by omega, by omega, hq0, hq1, HQ, ⟨fun h j hj => ?_⟩, HB3⟩
                  by_cases e : (j : Int) < k3
                  · exact HN.out h j e
                  · obtain rfl : j = k3.toNat := by omega
                    exact HGK.out
                case measure => simp [intOf]; omega
              | false =>
                rw [hgk] at g0
                have HGK := Aside0.mk hgk; clear hgk
                have HK1 : Aside0 (∀ wr', Below w5.heap.size w5 wr' → PickRel w5 n bs k3 (k3 + 1) wr') := ⟨fun wr' h => ⟨by omega, by omega, by omega, by omega, fun _ => HGK.out, fun h => by omega, h⟩⟩
                have HK2 : Aside0 (0 ≤ q → ∀ wr', Below w5.heap.size w5 wr' → PickRel w5 n bs q (k3 + 1) wr') := ⟨fun hq wr' h => ⟨by omega, by omega, by omega, by omega, HQ.out, fun h => by omega, h⟩⟩
                generalize rd ds k3 = dk at *
                by_cases hd : dk < colors
                · by_cases hqn : q < 0
                  · go_wp2
                    go_roundw
                    case rel => obtain ⟨r1, r2, r3, r4, r5, r6, r7⟩ := HK1.out _ HB3.out; exact ⟨k3, k3 + 1, rfl, rfl, r1, r2, r3, r4, ⟨r5⟩, ⟨r6⟩, ⟨r7⟩⟩
                    case measure => simp [intOf]; omega
                  · have hq2 : 0 ≤ q := by omega
                    have c1 := HSr.out.deg.cell q hq2 (by have := HSr.out.dlen; omega)
                    go_wp2
                    all_goals go_roundw
                    all_goals first
                      | (case rel => obtain ⟨r1, r2, r3, r4, r5, r6, r7⟩ := HK1.out _ HB3.out; exact ⟨k3, k3 + 1, rfl, rfl, r1, r2, r3, r4, ⟨r5⟩, ⟨r6⟩, ⟨r7⟩⟩)
                      | (case rel => obtain ⟨r1, r2, r3, r4, r5, r6, r7⟩ := HK2.out hq2 _ HB3.out; exact ⟨q, k3 + 1, rfl, rfl, r1, r2, r3, r4, ⟨r5⟩, ⟨r6⟩, ⟨r7⟩⟩)
                      | (case measure => simp [intOf]; omega)
                · by_cases hqn : q < 0
                  · have hqb : decide (q < 0) = true := decide_eq_true hqn
                    go_wp2_with fail
                    go_quiet (fail)
                    go_wp2
                    go_roundw
                    case rel => obtain ⟨r1, r2, r3, r4, r5, r6, r7⟩ := HK1.out _ (pw_below_drewN HB3.out _); exact ⟨k3, k3 + 1, rfl, rfl, r1, r2, r3, r4, ⟨r5⟩, ⟨r6⟩, ⟨r7⟩⟩
                    case measure => simp [intOf]; omega
                  · have hq2 : 0 ≤ q := by omega
                    have c1 := HSr.out.deg.cell q hq2 (by have := HSr.out.dlen; omega)
                    generalize rd ds q = dq at *
                    by_cases hd2 : colors ≤ dq
                    · have hd2b : decide (colors ≤ dq) = true := decide_eq_true hd2
                      by_cases hd3 : dq < dk
                      all_goals
                        go_wp2_with fail
                        go_quiet (fail)
                        go_wp2
                        go_roundw
                        first
                          | (case rel => obtain ⟨r1, r2, r3, r4, r5, r6, r7⟩ := HK1.out _ (pw_below_drewN HB3.out _); exact ⟨k3, k3 + 1, rfl, rfl, r1, r2, r3, r4, ⟨r5⟩, ⟨r6⟩, ⟨r7⟩⟩)
                          | (case rel => obtain ⟨r1, r2, r3, r4, r5, r6, r7⟩ := HK2.out hq2 _ (pw_below_drewN HB3.out _); exact ⟨q, k3 + 1, rfl, rfl, r1, r2, r3, r4, ⟨r5⟩, ⟨r6⟩, ⟨r7⟩⟩)
                        case measure => simp [intOf]; omega
                    · have hd4 : dq < colors := by omega
                      have hd2b : decide (colors ≤ dq) = false := decide_eq_false hd2
                      have hqb : decide (q < 0) = false := decide_eq_false hqn
                      clear hd2
                      go_wp2_with fail
                      go_region
                      all_goals
                        go_wp2
                        go_roundw
                        case rel => obtain ⟨r1, r2, r3, r4, r5, r6, r7⟩ := HK2.out hq2 _ (below_drew HB3.out); exact ⟨q, k3 + 1, rfl, rfl, r1, r2, r3, r4, ⟨r5⟩, ⟨r6⟩, ⟨r7⟩⟩
                        case measure => simp [intOf]; omega
            · have HE3 := Aside0.mk (show k3 = n by omega)
              have HQP : 0 ≤ q := by
                rcases Int.lt_or_le q 0 with h | h
                · exfalso
                  obtain ⟨i, hi, hgi⟩ := HG.out.left (by have := HOL.out; omega)
                  have := HN.out (by omega) i (by have := HE3.out; omega)
                  rw [this] at hgi; cases hgi
                · exact h
              have HGQ := Aside0.mk (HQ.out HQP)
              clear HQ HN
              have HSr := Aside0.mk (HS.out.step HB3.out)
              have g0 := HSr.out.gone.cell q HQP (by have := HG.out.len; omega)
              have f0 := HSr.out.gone.free q.toNat
              have HS6 := Aside0.mk (HSr.out.setGone q.toNat true)
              have HG6 := Aside0.mk (HG.out.pick HQP hq1 HGQ.out)
              have HO6 := Aside0.mk (remOrder (Kd.R_below HO.out HB3.out) q.toNat true)
              have hz6 := HS6.out.gone.lt
              clear HO
              obtain ⟨W6, hW6⟩ : ∃ W6, wr.setCell ⟨w.heap.size + 1, q.toNat, none⟩ (.bool true) = W6 := ⟨_, rfl⟩
              rw [hW6] at HS6 HO6 hz6
              clear HSr HS HG HB3
              go_wp2_with (at_builtin; refine Kd.R_append (Kd.int .i64) (w0 := w) w.heap.size rfl (.tmp 91) (.tmp 93) 37 3 (.int .i64 0) 8 rfl Try.underlying37 info3 rfl (by decide) (by decide) (.slice Av order.length cv) order q [.int .i64 q] (fun b => w.heap.size + 2 ≤ b) (fun _ => False) rfl rfl ?aP (fun _ hk => hk.elim) ?aF ?aO ?aB ?aS ?aL ?_; (case aP => exact rfl); (case aF => (intro b hb; omega)); (case aO => exact HO6.out); (case aB => exact HS6.out.below); (case aS => omega); (case aL => (have := HOL.out; omega)); intro v7 w7 hR7 hB7 hg7 hat7; have HO7 := Aside0.mk hR7; have HS7 := Aside0.mk (HS6.out.grown hg7 (fun b hb => HO6.out.1 b hb)); clear hR7 hB7 hg7 hat7; have HA7 := Aside0.mk (HA.out.below HS7.out.below); have y7 := HA7.out.cell (i := q.toNat) (by omega); obtain ⟨w8, hr8, hI8, hb8, hs8⟩ := mset_range (HA7.out.maps q.toNat (by omega)); have HS8 := Aside0.mk (HS7.out.step hb8); have HO8 := Aside0.mk (Kd.R_below (Kd.R_mono (ok' := fun b => w.heap.size + 2 ≤ b ∧ b < w7.heap.size) (Kd.R_bound HO7.out) (fun b hb => ⟨hb.1, hb.2.2.1⟩)) hb8); have HI8 := Aside0.mk hI8; have HKS := Aside0.mk (HA7.out.keys q.toNat (by omega)); have HNE := Aside0.mk (show w.heap.size + 2 ≤ w7.heap.size from (by have := HS7.out.gone.lt; omega)); clear hI8 hb8 hs8)
              go_loopg [] ((K q.toNat).filter fun x => !([] : List Int).contains x).length (fun m wx => ∃ done ds, m = ((K q.toNat).filter fun x => !done.contains x).length ∧ Aside0 (RemSt w wx n ds (bs.set q.toNat true)) ∧ Aside0 (MIter wx w7.heap.size (mb q.toNat) (K q.toNat) done) ∧ Aside0 (Kd.R (Kd.int .i64) 3 wx w.heap.size (fun b => w.heap.size + 2 ≤ b ∧ b < w7.heap.size) v7 (order ++ [q])))
              case atStart => exact ⟨[], _, rfl, HS8, HI8, HO8⟩
              case round =>
                clear HS6 HO6 HS7 HO7 HA7 HS8 HO8 HI8 hr8 y7 hz6 hW6 g0 f0
                obtain ⟨done, ds8, hm, HS9, HI9, HO9⟩ := hrel
                have HM := Aside0.mk hm; clear hm
                rcases miter_next HI9.out 0 with ⟨hall, hrn⟩ | ⟨x, vx, w10, hxk, hxd, hrn, hre, hI10, hg10, hs10⟩
                · clear hall
                  go_wp2
                  go_roundw
                  case rel => exact ⟨k + 1, rfl, by omega, by omega, ⟨ds8, _, _, HS9.out, HG6.out, by have := HOL.out; simp; omega, Kd.R_mono HO9.out (fun b hb => hb.1)⟩⟩
                  case measure => simp [intOf]; omega
                · have HS10 := Aside0.mk (HS9.out.grown hg10 (fun b e => by injection e with e; have := HNE.out; omega))
                  have HO10 := Aside0.mk (Kd.R_step HO9.out (w1 := w10) (fun b hb hlt => hg10.block b hlt (fun e => by injection e with e; omega)))
                  have hxr := HKS.out x hxk
                  have hx0 : 0 ≤ x := hxr.1
                  have hx1 : x < n := hxr.2.1
                  have HX := Aside0.mk (And.intro hxk hxd); have HI10 := Aside0.mk hI10
                  clear hxr hxk hxd hI10 hg10 hs10
                  have c0 := HS10.out.deg.cell x hx0 (by have := HS10.out.dlen; omega)
                  have f0 := HS10.out.deg.free x.toNat
                  go_wp2
                  go_roundg ((K q.toNat).filter fun y => !(x :: done).contains y).length
                  case rel =>
                    have hml := (HA.out.maps q.toNat (by omega)).lt
                    have hdl := HS10.out.deg.lt
                    exact ⟨x :: done, _, rfl, ⟨HS10.out.setDeg _ _⟩, ⟨HI10.out.kept (Below.heap_setCell _ _ _ _ (by simp; omega)) (Below.heap_setCell _ _ _ _ (by have := HNE.out; simp; omega))⟩, ⟨Kd.R_step HO10.out (fun b hb _ => Below.heap_setCell _ _ _ b (by simp; omega))⟩⟩
                  case measure =>
                    rw [HM.out]
                    exact filter_lt (fun y => !done.contains y) (fun y => !(x :: done).contains y) (fun y hy => by simp at hy ⊢; exact hy.2) x (by simp; exact HX.out.2) (by simp) _ HX.out.1
        · go_wp2
          go_ret
          exact ⟨_, order, rfl, Kd.R_mono HO.out (fun _ _ => trivial), HS.out.below, by have := HOL.out; omega, HG.out.range, HG.out.all (by have := HOL.out; omega)⟩
end Go.Proofs.Ytadaopfcgpfiiaa
namespace Go.Proofs.Ytadaopfcgpfiiaa
open Go.RowKit Go.Proofs.YtadaopfcgpfiiaaW.PrintWords Go.Proofs.YtadaopfcgpfiiaaW.PrintLast Go.Proofs.YtadaopfcgpfiiaaW.PrintMore PCg
set_option linter.unusedVariables false
set_option linter.unusedSimpArgs false
theorem php : ∀ (n m : Nat) (f : Nat → Nat), (∀ c, c < m → f c < n) → (∀ a b, a < m → b < m → f a = f b → a = b) → m ≤ n := by
  intro n
  induction n with
  | zero =>
    intro m f h _
    rcases Nat.eq_zero_or_pos m with h0 | h0
    · omega
    · exact absurd (h 0 h0) (by omega)
  | succ n ih =>
    intro m f h hi
    by_cases hc : ∃ c, c < m ∧ f c = n
    · obtain ⟨c0, hc0, hf⟩ := hc
      have := ih (m - 1) (fun c => if c < c0 then f c else f (c + 1)) (fun c hcm => by
        by_cases e : c < c0
        · simp only [if_pos e]
          have h1 := h c (by omega)
          have : f c ≠ n := fun e2 => by have := hi c c0 (by omega) hc0 (by rw [e2, hf]); omega
          omega
        · simp only [if_neg e]
          have h1 := h (c + 1) (by omega)
          have : f (c + 1) ≠ n := fun e2 => by have := hi (c + 1) c0 (by omega) hc0 (by rw [e2, hf]); omega
          omega) (fun a b ha hb he => by
        by_cases ea : a < c0 <;> by_cases eb : b < c0
        · simp only [if_pos ea, if_pos eb] at he; exact hi a b (by omega) (by omega) he
        · simp only [if_pos ea, if_neg eb] at he; have := hi a (b + 1) (by omega) (by omega) he; omega
        · simp only [if_neg ea, if_pos eb] at he; have := hi (a + 1) b (by omega) (by omega) he; omega
        · simp only [if_neg ea, if_neg eb] at he; have := hi (a + 1) (b + 1) (by omega) (by omega) he; omega)
      omega
    · have := ih m f (fun c hcm => by
        have h1 := h c hcm
        have : f c ≠ n := fun e => hc ⟨c, hcm, e⟩
        omega) hi
      omega
theorem php_but {n m i : Nat} (hin : i < n) (f : Nat → Nat) (h : ∀ c, c < m → f c < n ∧ f c ≠ i) (hi : ∀ a b, a < m → b < m → f a = f b → a = b) : m < n := by
  have := php (n - 1) m (fun c => if f c = n - 1 then i else f c) (fun c hc => by
    have := h c hc
    by_cases e : f c = n - 1
    · simp only [if_pos e]; omega
    · simp only [if_neg e]; omega) (fun a b ha hb he => by
    have h1 := h a ha
    have h2 := h b hb
    by_cases ea : f a = n - 1 <;> by_cases eb : f b = n - 1
    · exact hi a b ha hb (by rw [ea, eb])
    · simp only [if_pos ea, if_neg eb] at he; omega
    · simp only [if_neg ea, if_pos eb] at he; omega
    · simp only [if_neg ea, if_neg eb] at he; exact hi a b ha hb he)
  omega
/-- all colours are taken by neighbors: there are fewer colours than nodes -/
theorem taken_lt {n : Nat} {i colors : Int} {K out : List Int} (hi0 : 0 ≤ i) (hi1 : i < n) (hc0 : 0 ≤ colors) (hK : ∀ x ∈ K, 0 ≤ x ∧ x < n ∧ x ≠ i) (h : ∀ c, 0 ≤ c → c < colors → ∃ x ∈ K, rd out x = c) : colors < n := by
  have hf : ∀ c : Nat, ∃ x : Nat, c < colors.toNat → ((x : Int) ∈ K ∧ rd out x = c) := by
    intro c
    by_cases hc : c < colors.toNat
    · obtain ⟨x, hx, he⟩ := h c (by omega) (by omega)
      have := hK x hx
      exact ⟨x.toNat, fun _ => by rw [show ((x.toNat : Nat) : Int) = x from by omega]; exact ⟨hx, he⟩⟩
    · exact ⟨0, fun h => absurd h hc⟩
  have hf2 := fun c => Classical.choose_spec (hf c)
  have := php_but (n := n) (m := colors.toNat) (i := i.toNat) (by omega) (fun c => Classical.choose (hf c)) (fun c hc => by
    have := hK _ (hf2 c hc).1
    constructor
    · have := this.2.1; exact Int.ofNat_lt.1 this
    · have h3 := this.2.2
      intro e
      apply h3
      have : ((Classical.choose (hf c) : Nat) : Int) = ((i.toNat : Nat) : Int) := congrArg Nat.cast e
      rw [this]; omega) (fun a b ha hb he => by
    have h1 := (hf2 a ha).2
    have h2 := (hf2 b hb).2
    rw [he] at h1
    rw [h1] at h2
    exact Int.ofNat_inj.1 h2)
  omega
theorem swap_perm {xs : List Int} {i j : Nat} (hi : i < xs.length) (hj : j < xs.length) : ((xs.set i (rd xs j)).set j (rd xs i)).Perm xs := by
  have e1 : rd xs (j : Int) = xs[j] := by simp [rd, hj]
  have e2 : rd xs (i : Int) = xs[i] := by simp [rd, hi]
  rw [e1, e2]
  exact List.set_set_perm hi hj
theorem reverse_go : ∀ (d : Nat) (fuel : Nat) (xs : List Int) (i j : Int), 0 ≤ i → j < xs.length → xs.length ≤ 1000000 → -1 ≤ j → (j - i + 1).toNat ≤ d → d < fuel → ∃ r, slices_Reverse_int_int.l0 fuel xs i j = some r ∧ r.Perm xs := by
  intro d
  induction d with
  | zero =>
    intro fuel xs i j h0 h1 h2 h3 hd hf
    obtain ⟨f, rfl⟩ : ∃ f, fuel = f + 1 := ⟨fuel - 1, by omega⟩
    exact ⟨xs, by unfold slices_Reverse_int_int.l0; rw [if_neg (by omega)], List.Perm.refl _⟩
  | succ d ih =>
    intro fuel xs i j h0 h1 h2 h3 hd hf
    obtain ⟨f, rfl⟩ : ∃ f, fuel = f + 1 := ⟨fuel - 1, by omega⟩
    by_cases hlt : i < j
    · unfold slices_Reverse_int_int.l0
      rw [if_pos hlt, if_pos (by omega), if_pos (by omega), if_pos (by omega), if_pos (by omega), w64 (n := i + 1) (by omega), w64 (n := j - 1) (by omega)]
      obtain ⟨r, hr, hp⟩ := ih f ((xs.set i.toNat (rd xs j)).set j.toNat (rd xs i)) (i + 1) (j - 1) (by omega) (by simp; omega) (by simp; omega) (by omega) (by omega) (by omega)
      refine ⟨r, hr, hp.trans ?_⟩
      have := swap_perm (xs := xs) (i := i.toNat) (j := j.toNat) (by omega) (by omega)
      rwa [show ((i.toNat : Nat) : Int) = i from by omega, show ((j.toNat : Nat) : Int) = j from by omega] at this
    · exact ⟨xs, by unfold slices_Reverse_int_int.l0; rw [if_neg hlt], List.Perm.refl _⟩
theorem reverse_f (xs : List Int) (h : xs.length ≤ 1000000) : ∃ k r, slices_Reverse_int_int.f k xs = some r ∧ r.Perm xs := by
  obtain ⟨r, hr, hp⟩ := reverse_go xs.length (xs.length + 1) xs 0 ((xs.length : Int) - 1) (Int.le_refl _) (by omega) h (by omega) (by omega) (by omega)
  refine ⟨xs.length + 1, r, ?_, hp⟩
  unfold slices_Reverse_int_int.f
  rw [w64 (n := (xs.length : Int) - 1) (by omega)]
  exact hr
end Go.Proofs.Ytadaopfcgpfiiaa
namespace Go.Proofs.Ytadaopfcgpfiiaa
open Go.RowKit Go.Proofs.YtadaopfcgpfiiaaW.PrintWords Go.Proofs.YtadaopfcgpfiiaaW.PrintLast Go.Proofs.YtadaopfcgpfiiaaW.PrintMore PCg
set_option linter.unusedVariables false
set_option linter.unusedSimpArgs false
def ColorPost (n : Nat) (colors : Int) (w : World) (e : Ending) (w' : World) : Prop :=
  ∃ v out, e = .returned v ∧ Kd.R (Kd.int .i64) 3 w' w.heap.size (fun _ => True) v out ∧ Below w.heap.size w w' ∧ out.length = n ∧ (∀ x ∈ out, -1 ≤ x ∧ x < colors) ∧ (n ≤ colors → ∀ x ∈ out, 0 ≤ x)
structure ColSt (w wr : World) (g n go : Nat) (mb : Nat → Nat) (K : Nat → List Int) (out : List Int) : Prop where
  below : Below w.heap.size w wr
  adj : Adj wr w.heap.size g n n mb K
  blk : IntBlk wr go out
  olen : out.length = n
  hgo : w.heap.size ≤ go
  sep1 : g < go
  sep2 : ∀ i, i < n → mb i < go
section
variable {w wr w1 : World} {g n go : Nat} {mb : Nat → Nat} {K : Nat → List Int} {out : List Int}
theorem ColSt.step (h : ColSt w wr g n go mb K out) (hb : Below wr.heap.size wr w1) : ColSt w w1 g n go mb K out :=
  ⟨below_step h.below hb, h.adj.below hb, h.blk.below hb, h.olen, h.hgo, h.sep1, h.sep2⟩
theorem ColSt.setOut (h : ColSt w wr g n go mb K out) (i : Nat) (x : Int) : ColSt w (wr.setCell ⟨go, i, none⟩ (.int .i64 x)) g n go mb K (out.set i x) :=
  ⟨h.below.setCell (p := ⟨go, i, none⟩) h.hgo _,
   h.adj.step (Below.heap_setCell _ _ _ _ (by have := h.sep1; simp; omega)) (fun k hk => Below.heap_setCell _ _ _ _ (by have := h.sep2 k hk; simp; omega)),
   h.blk.set i x, by simp [h.olen], h.hgo, h.sep1, h.sep2⟩
theorem colSt_start {w1 : World} (hA : Adj w1 w.heap.size g n n mb K) (hb : Below w.heap.size w w1) : ColSt w (w1.alloc (.cells (madeCells #[.int .i64 0] n) 3)) g n w1.heap.size mb K (List.replicate n 0) :=
  ⟨below_alloc hb _, hA.below (below_alloc (Below.refl _ _) _), intBlk_made w1 n, by simp, hb.size, hA.lt, fun i hi => (hA.maps i hi).lt⟩
end
theorem intBlk_R {w : World} {g base : Nat} {ds : List Int} (h : IntBlk w g ds) (hb : base ≤ g) (hl : ds.length ≤ 1000000) : Kd.R (Kd.int .i64) 3 w base (fun _ => True) (.slice (some ⟨g, 0, none⟩) ds.length ds.length) ds := by
  refine Kd.R_of_own ⟨by simp [encs], .inr ⟨g, ds.length, (nums .i64 ds).toArray, rfl, hb, h, Nat.le_refl _, by unfold maxLen; omega, by simp [nums], ?_⟩⟩ (fun _ _ => trivial)
  simp [nums, encs, List.take_of_length_le]
theorem rd_T159 {xs : List Int} {i : Nat} {j v : Int} (hj0 : 0 ≤ j) (hj1 : j < xs.length) : rd (xs.set i v) j = if j = i then v else rd xs j := by
  unfold rd
  simp only [List.getD_eq_getElem?_getD, List.getElem?_set]
  by_cases e : i = j.toNat
  · subst e
    rw [if_pos rfl, if_pos (by omega), if_pos (by omega)]
    rfl
  · rw [if_neg e, if_neg (by omega)]
set_option maxRecDepth 100000 in
set_option maxHeartbeats 1000000 in
theorem color_any (A : Option Addr) (c : Nat) (edges : List (List Int)) (colors : Int) (w : World) (hr : Kd.C kRows w A edges.length edges) (hcp : edges.length ≤ c) (hm : edges.length ≤ 10000) (hc0 : 0 ≤ colors) (hc1 : colors ≤ 10000) :
    Calls Try.prog 47 #[.slice A edges.length c, .int .i64 colors] w (ColorPost edges.length colors w) := by
  have HR := Aside0.mk hr; clear hr
  have hmk := make_ints edges.length (by omega)
  go_enter Try.func47, Try.ntmps47
  go_wp2_with fail
  refine (neighbors_any A c edges w HR.out hcp hm).mono ?_
  rintro e w1 ⟨g, mb, K, rfl, hA1, hB1⟩
  have HS1 := Aside0.mk (colSt_start hA1 hB1)
  clear hA1 hB1
  go_wp2_with fail
  go_loopw [23] (fun i wr => ∃ k : Int, i = .int .i64 k ∧ 0 ≤ k ∧ k ≤ edges.length ∧ Aside0 (∃ out, ColSt w wr g edges.length w1.heap.size mb K out ∧ ∀ j : Nat, (j : Int) < k → rd out j = -1)) (fun i wr => edges.length - (intOf i).toNat)
  case atStart => exact ⟨0, rfl, Int.le_refl _, by omega, ⟨_, HS1.out, fun j hj => by omega⟩⟩
  case round =>
    clear HS1
    obtain ⟨k, rfl, hk0, hk, ⟨out, hS, hN⟩⟩ := hrel
    have HS := Aside0.mk hS; have HN := Aside0.mk hN; clear hS hN
    by_cases hlt : k < edges.length
    · have p1 := eq_true hk0
      have q1 := eq_true hlt
      have c0 := HS.out.blk.cell k hk0 (by have := HS.out.olen; omega)
      have f0 := HS.out.blk.free k.toNat
      go_wp2
      go_roundw
      case rel =>
        refine ⟨k + 1, rfl, by omega, by omega, ⟨_, HS.out.setOut _ _, fun j hj => ?_⟩⟩
        have hl := HS.out.olen
        by_cases e : (j : Int) < k
        · have := HN.out j e
          simp only [rd, List.getD_eq_getElem?_getD, List.getElem?_set] at this ⊢
          rw [if_neg (by omega)]
          exact this
        · simp only [rd, List.getD_eq_getElem?_getD, List.getElem?_set]
          rw [if_pos (by omega), if_pos (by omega)]
          rfl
      case measure => simp [intOf]; omega
    · have HM1 : Aside0 (∀ x ∈ out, x = -1) := ⟨fun x hx => by
        obtain ⟨j, hj, rfl⟩ := List.getElem_of_mem hx
        have := HN.out j (by have := HS.out.olen; omega)
        simpa [rd, hj] using this⟩
      clear HN
      go_wp2_with fail
      refine (remove_any w.heap.size g edges.length mb K colors wr HS.out.adj hm).mono ?_
      rintro e w3 ⟨v3, order, rfl, hR3, hB3, hol, hor, hoall⟩
      have HS3 := Aside0.mk (HS.out.step hB3)
      have HR3 := Aside0.mk hR3
      have HOR := Aside0.mk hor; have HOA := Aside0.mk hoall
      have HB3 := Aside0.mk hB3
      obtain ⟨kr, ro, hkr, hperm⟩ := reverse_f order (by omega)
      have HKR := Aside0.mk hkr; have HP := Aside0.mk hperm
      have HOL := Aside0.mk (hperm.length_eq.trans hol)
      have HOL1 := Aside0.mk hol
      have hrl : ro.length ≤ 10000 := by have := HOL.out; omega
      clear hor hoall hkr hperm hR3 hB3 hol
      go_wp2_with fail
      refine (slices_Reverse_int_int.calls kr (fun _ => True) v3 order ro wr w3 HB3.out HR3.out HKR.out).mono ?_
      rintro e w4 ⟨rfl, hR4, hB4, _⟩
      have HS4 := Aside0.mk (HS.out.step hB4)
      have HR4 := Aside0.mk (Kd.R_mono (ok' := fun k => wr.heap.size ≤ k) (Kd.R_bound hR4) (fun k hk => hk.2.1))
      obtain ⟨Ao, co, hv⟩ := Kd.R_slice hR4
      subst hv
      have HGO := Aside0.mk HS.out.blk.lt
      have HRO : Aside0 (∀ x ∈ ro, 0 ≤ x ∧ x < edges.length) := ⟨fun x hx => HOR.out x (HP.out.mem_iff.1 hx)⟩
      have HRA : Aside0 (∀ i, i < edges.length → (i : Int) ∈ ro) := ⟨fun i hi => HP.out.mem_iff.2 (HOA.out i hi)⟩
      clear hR4 hB4 HS HS3 HR3 HB3 HOR HOA HKR HP
      go_wp2_with fail
      obtain ⟨wB, rfl⟩ : ∃ wB : World, wB = wr := ⟨_, rfl⟩
      go_loopw [37] (fun i wr5 => ∃ k : Int, i = .int .i64 k ∧ 0 ≤ k ∧ k ≤ ro.length ∧ Aside0 (∃ out, ColSt w wr5 g edges.length w1.heap.size mb K out ∧ (∀ x ∈ out, -1 ≤ x ∧ x < colors) ∧ (edges.length ≤ colors → ∀ j : Int, 0 ≤ j → j < k → 0 ≤ rd out (rd ro j))) ∧
          Aside0 (Kd.R (Kd.int .i64) 3 wr5 wB.heap.size (fun k => wB.heap.size ≤ k) (.slice Ao ro.length co) ro)) (fun i wr => ro.length - (intOf i).toNat)
      case atStart => exact ⟨0, rfl, Int.le_refl _, by omega, ⟨out, HS4.out, fun x hx => by have := HM1.out x hx; omega, fun _ j h0 h1 => by omega⟩, HR4⟩
      case round =>
        clear HS4 HR4 HM1
        obtain ⟨k, rfl, hk0, hk, ⟨out, hS, hrg, hpos⟩, HR5⟩ := hrel
        have HS := Aside0.mk hS; have HRG := Aside0.mk hrg; have HPO := Aside0.mk hpos; clear hS hrg hpos
        by_cases hlt : k < ro.length
        · have p1 := eq_true hk0
          have q1 := eq_true hlt
          obtain ⟨_, _, hC⟩ := Kd.R_reads' HR5.out
          obtain ⟨ad, hA, h0⟩ := Kd.at_int hC k hk0 hlt
          cases hA
          have hmem := HRO.out (rd ro k) (mem_rd hk0 hlt)
          have hi0 : 0 ≤ rd ro k := hmem.1
          have hi1 : rd ro k < edges.length := hmem.2
          clear hmem hC
          obtain ⟨i, hi⟩ : ∃ i, rd ro k = i := ⟨_, rfl⟩
          rw [hi] at h0 hi0 hi1
          have HI := Aside0.mk hi; clear hi
          go_wp2_with fail
          obtain ⟨w5, rfl⟩ : ∃ w5 : World, w5 = wr := ⟨_, rfl⟩
          go_loopw [42] (fun s wr5 => ∃ c : Int, s = .int .i64 c ∧ 0 ≤ c ∧ c ≤ colors ∧ Aside0 (Below w5.heap.size w5 wr5) ∧ Aside0 (∀ c', 0 ≤ c' → c' < c → ∃ x ∈ K i.toNat, rd out x = c')) (fun i wr => (colors - intOf i).toNat)
          case atStart => exact ⟨0, rfl, Int.le_refl _, hc0, ⟨Below.refl _ _⟩, ⟨fun c' h0 h1 => by omega⟩⟩
          case round =>
            clear h0
            obtain ⟨cc, rfl, hcc0, hcc1, HB6, HT⟩ := hrel
            by_cases hlt2 : cc < colors
            · have p2 := eq_true hcc0
              have q2 := eq_true hlt2
              have HS6 := Aside0.mk (HS.out.step HB6.out)
              have y0 := HS6.out.adj.cell (i := i.toNat) (by omega)
              obtain ⟨w8, hr8, hI8, hb8, hs8⟩ := mset_range (HS6.out.adj.maps i.toNat (by omega))
              have HB8 := Aside0.mk (below_step HB6.out hb8)
              have HI8 := Aside0.mk hI8
              have HL6 := Aside0.mk HB6.out.size
              clear hI8 hb8 hs8
              go_wp2_with fail
              go_loopg [12] ((K i.toNat).filter fun x => !([] : List Int).contains x).length (fun m s wx => ∃ done tk, s = .bool tk ∧ m = ((K i.toNat).filter fun x => !done.contains x).length ∧ Aside0 (Below w5.heap.size w5 wx) ∧ Aside0 (MIter wx wr.heap.size (mb i.toNat) (K i.toNat) done) ∧ Aside0 (tk = true → ∃ x ∈ K i.toNat, rd out x = cc))
              case atStart => exact ⟨[], false, rfl, rfl, HB8, HI8, ⟨fun h => by cases h⟩⟩
              case round =>
                clear hr8 HB8 HI8 y0
                obtain ⟨done, tk, rfl, hm2, HB9, HI9, HTK⟩ := hrel
                have HM := Aside0.mk hm2; clear hm2
                rcases miter_next HI9.out 0 with ⟨hall, hrn⟩ | ⟨x, vx, w10, hxk, hxd, hrn, hre, hI10, hg10, hs10⟩
                · clear hall
                  have HS9 := Aside0.mk (HS.out.step HB9.out)
                  have c0 := HS9.out.blk.cell i hi0 (by have := HS9.out.olen; omega)
                  have f0 := HS9.out.blk.free i.toNat
                  cases tk with
                  | true =>
                    go_wp2
                    go_roundw
                    case rel =>
                      refine ⟨cc + 1, rfl, by omega, by omega, HB9, ⟨fun c' h0 h1 => ?_⟩⟩
                      by_cases e : c' < cc
                      · exact HT.out c' h0 e
                      · obtain rfl : c' = cc := by omega
                        exact HTK.out rfl
                    case measure => simp [intOf]; omega
                  | false =>
                    have HR9 := Aside0.mk (Kd.R_step (Kd.R_below HR5.out HB9.out) (w1 := wr.setCell ⟨w1.heap.size, i.toNat, none⟩ (.int .i64 cc)) (fun b hb _ => Below.heap_setCell _ _ _ b (by have := HGO.out; simp; omega)))
                    go_wp2
                    go_roundw
                    case rel =>
                      refine ⟨k + 1, rfl, by omega, by omega, ⟨_, HS9.out.setOut i.toNat cc, fun x hx => ?_, fun hle j hj0 hj1 => ?_⟩, HR9⟩
                      · rcases List.mem_or_eq_of_mem_set hx with hx | rfl
                        · exact HRG.out x hx
                        · omega
                      · have hm2 := HRO.out (rd ro j) (mem_rd hj0 (by omega))
                        rw [rd_T159 hm2.1 (by have := HS9.out.olen; omega)]
                        by_cases e : rd ro j = (i.toNat : Nat)
                        · rw [if_pos e]; exact hcc0
                        · rw [if_neg e]
                          by_cases e2 : j < k
                          · exact HPO.out hle j hj0 e2
                          · obtain rfl : j = k := by omega
                            exact absurd HI.out (by omega)
                    case measure => simp [intOf]; omega
                · have HB10 := Aside0.mk (HB9.out.grown hg10 HB9.out.size (fun b e => by injection e with e; have := HL6.out; omega))
                  have HS10 := Aside0.mk (HS.out.step HB10.out)
                  have hxr := HS.out.adj.keys i.toNat (by omega) x hxk
                  have hx0 : 0 ≤ x := hxr.1
                  have hx1 : x < edges.length := hxr.2.1
                  have HX := Aside0.mk (And.intro hxk hxd); have HI10 := Aside0.mk hI10
                  clear hxr hxk hxd hI10 hg10 hs10
                  have c0 := HS10.out.blk.cell x hx0 (by have := HS10.out.olen; omega)
                  have hmeas : Aside0 (((K i.toNat).filter fun y => !(x :: done).contains y).length < ((K i.toNat).filter fun x => !done.contains x).length) :=
                    ⟨filter_lt (fun y => !done.contains y) (fun y => !(x :: done).contains y) (fun y hy => by simp at hy ⊢; exact hy.2) x (by simp; exact HX.out.2) (by simp) _ HX.out.1⟩
                  cases tk with
                  | true =>
                    go_wp2
                    go_roundg ((K i.toNat).filter fun y => !(x :: done).contains y).length
                    case rel => exact ⟨x :: done, true, rfl, rfl, HB10, HI10, ⟨fun _ => HTK.out trivial⟩⟩
                    case measure => rw [HM.out]; exact hmeas.out
                  | false =>
                    obtain ⟨ox, hox⟩ : ∃ ox, rd out x = ox := ⟨_, rfl⟩
                    rw [hox] at c0
                    have HOX := Aside0.mk hox; clear hox
                    go_wp2
                    go_roundg ((K i.toNat).filter fun y => !(x :: done).contains y).length
                    case rel => exact ⟨x :: done, ox == cc, rfl, rfl, HB10, HI10, ⟨fun h => ⟨x, HX.out.1, by rw [HOX.out]; exact beq_iff_eq.1 h⟩⟩⟩
                    case measure => rw [HM.out]; exact hmeas.out
            · have HS9 := Aside0.mk (HS.out.step HB6.out)
              have HR9 := Aside0.mk (Kd.R_below HR5.out HB6.out)
              have HCE := Aside0.mk (show cc = colors by omega)
              go_wp2
              go_roundw
              case rel =>
                refine ⟨k + 1, rfl, by omega, by omega, ⟨_, HS9.out, HRG.out, fun hle j hj0 hj1 => ?_⟩, HR9⟩
                exact absurd (taken_lt hi0 hi1 hc0 (fun x hx => by have := HS9.out.adj.keys i.toNat (by omega) x hx; omega) (fun c' h0 h1 => HT.out c' h0 (by have := HCE.out; omega))) (by omega)
              case measure => simp [intOf]; omega
        · have HKE := Aside0.mk (show k = ro.length by omega)
          go_wp2
          go_ret
          have hol := HS.out.olen
          refine ⟨_, out, rfl, ?_, HS.out.below, hol, HRG.out, fun hle x hx => ?_⟩
          · have := intBlk_R HS.out.blk HS.out.hgo (by omega)
            rwa [hol] at this
          · obtain ⟨j, hj, rfl⟩ := List.getElem_of_mem hx
            have hmj := HRA.out j (by omega)
            obtain ⟨a, ha, hae⟩ := List.getElem_of_mem hmj
            have := HPO.out hle (a : Int) (by omega) (by have := HKE.out; omega)
            have e1 : rd ro (a : Int) = j := by simp [rd, ha, hae]
            rw [e1] at this
            simpa [rd, hj] using this
end Go.Proofs.Ytadaopfcgpfiiaa
namespace Go.Proofs.Ytadaopfcgpfiiaa
open Go.RowKit Go.Proofs.YtadaopfcgpfiiaaW.PrintWords Go.Proofs.YtadaopfcgpfiiaaW.PrintLast Go.Proofs.YtadaopfcgpfiiaaW.PrintMore PCg
set_option linter.unusedVariables false
set_option linter.unusedSimpArgs false
theorem index_goI (l : List Int) (a : Int) (hl : l.length ≤ 9223372036854775807) : ∀ (d fuel : Nat) (i : Int), 0 ≤ i → i ≤ l.length → (l.length - i).toNat = d → d < fuel → ∃ r, slices_Index_int_int.l0 fuel l a (l.length : Int) i = some r := by
  intro d
  induction d with
  | zero =>
    intro fuel i h0 h1 hd hf
    obtain ⟨f, rfl⟩ : ∃ f, fuel = f + 1 := ⟨fuel - 1, by omega⟩
    exact ⟨-1, by unfold slices_Index_int_int.l0; rw [if_neg (by omega)]⟩
  | succ d ih =>
    intro fuel i h0 h1 hd hf
    obtain ⟨f, rfl⟩ : ∃ f, fuel = f + 1 := ⟨fuel - 1, by omega⟩
    unfold slices_Index_int_int.l0
    rw [if_pos (by omega), if_pos h0, if_pos (by omega)]
    split
    · exact ⟨_, rfl⟩
    · rw [w64 (n := i + 1) (by omega)]
      exact ih f (i + 1) (by omega) (by omega) (by omega) (by omega)
theorem contains_fI (l : List Int) (a : Int) (hl : l.length ≤ 9223372036854775807) : ∃ k r, slices_Contains_int_int.f k l a = some r := by
  obtain ⟨r, hr⟩ := index_goI l a hl l.length (l.length + 1) 0 (by omega) (by omega) (by omega) (by omega)
  exact ⟨l.length + 1, decide (r ≥ 0), by unfold slices_Contains_int_int.f slices_Index_int_int.f; rw [hr]; rfl⟩
def ContPost (w : World) (e : Ending) (w' : World) : Prop := ∃ b, e = .returned (.bool b) ∧ Below w.heap.size w w'
theorem containsInt_post (A : Option Addr) (c : Nat) (l : List Int) (a : Int) (w : World) (hr : Kd.C (Kd.int .i64) w A l.length l) (hcp : l.length ≤ c) :
    Calls Try.prog 48 #[.slice A l.length c, .int .i64 a] w (ContPost w) := by
  obtain ⟨k, r, h⟩ := contains_fI l a hr.2.1
  exact (slices_Contains_int_int.calls k A c l a r w hr hcp h).mono (fun e w' ⟨he, hd⟩ => ⟨r, he, hd.below⟩)
/-- a place in a register, or in a slot below s -/
def goodPl (s : Int) (p : Int × Int) : Prop := (p.2 = -1 ∧ 2 ≤ p.1 ∧ p.1 ≤ 9) ∨ (p.1 = 0 ∧ 0 ≤ p.2 ∧ p.2 < s)
theorem goodPl.mono {s s' : Int} {p : Int × Int} (h : goodPl s p) (hs : s ≤ s') : goodPl s' p := by
  unfold goodPl at *; omega
/-- the first loop at colour k: what is spilled, and the places -/
def Sp1 (k : Int) (sp : List Int) (ps : List (Int × Int)) : Prop :=
  (ps.length : Int) = k ∧ (sp.length : Int) ≤ k ∧ (∀ x ∈ sp, 0 ≤ x ∧ x < k) ∧ ∀ j : Nat, (j : Int) < k → goodPl 0 (ps.getD j (0, 0)) ∨ (j : Int) ∈ sp
theorem getD_snoc {ps : List (Int × Int)} {p : Int × Int} {j : Nat} (h : j < ps.length) : (ps ++ [p]).getD j (0, 0) = ps.getD j (0, 0) := by
  simp only [List.getD_eq_getElem?_getD, List.getElem?_append_left h]
theorem Sp1.spill {k : Int} {sp : List Int} {ps : List (Int × Int)} (h : Sp1 k sp ps) (hk : 0 ≤ k) (p : Int × Int) : Sp1 (k + 1) (sp ++ [k]) (ps ++ [p]) := by
  obtain ⟨h1, h2, h3, h4⟩ := h
  refine ⟨by simp; omega, by simp; omega, fun x hx => ?_, fun j hj => ?_⟩
  · rcases List.mem_append.1 hx with hx | hx
    · have := h3 x hx; omega
    · simp at hx; omega
  · by_cases e : (j : Int) < k
    · rw [getD_snoc (by omega)]
      rcases h4 j e with h | h
      · exact .inl h
      · exact .inr (List.mem_append_left _ h)
    · refine .inr (List.mem_append_right _ ?_)
      simp; omega
theorem Sp1.reg {k : Int} {sp : List Int} {ps : List (Int × Int)} (h : Sp1 k sp ps) (hk : 0 ≤ k) {p : Int × Int} (hp : goodPl 0 p) : Sp1 (k + 1) sp (ps ++ [p]) := by
  obtain ⟨h1, h2, h3, h4⟩ := h
  refine ⟨by simp; omega, by omega, fun x hx => by have := h3 x hx; omega, fun j hj => ?_⟩
  by_cases e : (j : Int) < k
  · rw [getD_snoc (by omega)]
    exact h4 j e
  · left
    have : j = ps.length := by omega
    subst this
    simpa using hp
/-- the last loop at spilled node k: what is left is good -/
def Sp4 (n : Int) (sp : List Int) (k : Int) (ps : List (Int × Int)) (slots : Int) : Prop :=
  (ps.length : Int) = n ∧ 0 ≤ slots ∧ slots ≤ sp.length ∧ (∀ x ∈ sp, 0 ≤ x ∧ x < n) ∧ ∀ j : Nat, (j : Int) < n → goodPl slots (ps.getD j (0, 0)) ∨ ∃ q : Nat, k ≤ q ∧ q < sp.length ∧ rd sp q = j
theorem Sp4.start {n : Int} {sp : List Int} {ps : List (Int × Int)} (h : Sp1 n sp ps) : Sp4 n sp 0 ps 0 := by
  obtain ⟨h1, h2, h3, h4⟩ := h
  refine ⟨h1, by omega, by omega, h3, fun j hj => ?_⟩
  rcases h4 j hj with h | h
  · exact .inl h
  · right
    obtain ⟨q, hq, he⟩ := List.getElem_of_mem h
    exact ⟨q, by omega, hq, by simp [rd, hq, he]⟩
theorem Sp4.next {n k slots c : Int} {sp : List Int} {ps : List (Int × Int)} (h : Sp4 n sp k ps slots) (hk0 : 0 ≤ k) (hk1 : k < sp.length) (hc0 : 0 ≤ c) (hc1 : c < sp.length) :
    Sp4 n sp (k + 1) (ps.set (rd sp k).toNat (0, c)) (mx slots (c + 1)) := by
  obtain ⟨h1, h2, h3, h4, h5⟩ := h
  have hm : slots ≤ mx slots (c + 1) ∧ c + 1 ≤ mx slots (c + 1) ∧ mx slots (c + 1) ≤ sp.length := by unfold mx; split <;> omega
  refine ⟨by rw [List.length_set]; exact h1, by omega, hm.2.2, h4, fun j hj => ?_⟩
  have hr := h4 (rd sp k) (mem_rd hk0 hk1)
  simp only [List.getD_eq_getElem?_getD, List.getElem?_set]
  by_cases e : (rd sp k).toNat = j
  · rw [if_pos e, if_pos (by omega)]
    left
    exact .inr ⟨rfl, hc0, by simp; omega⟩
  · rw [if_neg e]
    have h6 := h5 j hj
    rw [List.getD_eq_getElem?_getD] at h6
    rcases h6 with h | ⟨q, hq, hq2, he⟩
    · exact .inl (h.mono hm.1)
    · right
      refine ⟨q, ?_, hq2, he⟩
      rcases Int.lt_or_le (q : Int) (k + 1) with h | h
      · exfalso
        have : (q : Int) = k := by omega
        rw [this] at he
        omega
      · exact h
theorem Sp4.done {n k slots : Int} {sp : List Int} {ps : List (Int × Int)} (h : Sp4 n sp k ps slots) (hk : (sp.length : Int) ≤ k) : ∀ p ∈ ps, goodPl slots p := by
  intro p hp
  obtain ⟨j, hj, rfl⟩ := List.getElem_of_mem hp
  rcases h.2.2.2.2 j (by have := h.1; omega) with h | ⟨q, hq, hq2, _⟩
  · simpa [hj] using h
  · omega
/-- cells of a place are written -/
theorem two_stored {W : World} {base e g n cap : Nat} {ok : Nat → Prop} {ps : List (Int × Int)} (h : Kd.R kTwo e W base ok (.slice (some ⟨g, 0, none⟩) n cap) ps) (i : Nat) (a b : Int) (hi : i < ps.length) :
    Kd.R kTwo e ((W.setCell ⟨g, i * 2, none⟩ (.int .i64 a)).setCell ⟨g, i * 2 + 1, none⟩ (.int .i64 b)) base ok (.slice (some ⟨g, 0, none⟩) n cap) (ps.set i (a, b)) := by
  obtain rfl : n = ps.length := (Kd.R_reads' h).1
  obtain ⟨h0, inner, ho, hl, hr⟩ := h
  have h1 := (ho.stored (i * 2) (.int .i64 a)).1
  have h2 := (h1.stored (i * 2 + 1) (.int .i64 b)).1
  refine ⟨h0, _, by rw [List.length_set]; exact h2, ?_, fun j p hj => ?_⟩
  · simp only [List.length_set]; exact hl
  · have hl' : inner.length = ps.length * 2 := hl
    rw [List.getElem?_set] at hj
    by_cases e1 : i = j
    · subst e1
      rw [if_pos rfl, if_pos hi] at hj
      injection hj with hj
      subst hj
      have e2 : ((((inner.set (i * 2) (.int .i64 a)).set (i * 2 + 1) (.int .i64 b)).drop (i * kTwo.sz)).take kTwo.sz) = [.int .i64 a, .int .i64 b] := by
        show ((((inner.set (i * 2) (.int .i64 a)).set (i * 2 + 1) (.int .i64 b)).drop (i * 2)).take 2) = _
        apply List.ext_getElem?
        intro q
        rw [List.getElem?_take, List.getElem?_drop]
        rcases q with _ | _ | q
        · simp only [List.getElem?_set]
          rw [if_pos (by omega), if_neg (by omega), if_pos (by omega), if_pos (by omega)]
          rfl
        · rw [if_pos (by omega), show i * 2 + (0 + 1) = i * 2 + 1 from rfl, List.getElem?_set, if_pos rfl, if_pos (by rw [List.length_set]; omega)]
          rfl
        · rw [if_neg (by omega)]
          rfl
      rw [e2]
      exact kTwo_mkM _ _ _ (a, b)
    · rw [if_neg e1] at hj
      have h3 := hr j p hj
      have e2 : ((((inner.set (i * 2) (.int .i64 a)).set (i * 2 + 1) (.int .i64 b)).drop (j * kTwo.sz)).take kTwo.sz) = ((inner.drop (j * kTwo.sz)).take kTwo.sz) := by
        show ((((inner.set (i * 2) (.int .i64 a)).set (i * 2 + 1) (.int .i64 b)).drop (j * 2)).take 2) = ((inner.drop (j * 2)).take 2)
        apply List.ext_getElem?
        intro q
        rw [List.getElem?_take, List.getElem?_drop, List.getElem?_take, List.getElem?_drop]
        by_cases hq : q < 2
        · rw [if_pos hq, if_pos hq]
          simp only [List.getElem?_set]
          rw [if_neg (by omega), if_neg (by omega)]
        · rw [if_neg hq, if_neg hq]
      rw [e2]
      exact h3
end Go.Proofs.Ytadaopfcgpfiiaa
