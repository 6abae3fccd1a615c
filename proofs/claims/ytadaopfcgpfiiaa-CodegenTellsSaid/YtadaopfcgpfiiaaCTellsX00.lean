/- Lemmas: what the theorem of the claim's last text needs, joined by a program out of the seat's texts L6, M0, Q2. -/
import Derived.Test.YtadaopfcgpfiiaaBaseX36
import Derived.Test.YtadaopfcgpfiiaaCErrorsX00
import Derived.Test.YtadaopfcgpfiiaaBaseX37
namespace Go.Proofs.Ytadaopfcgpfiiaa
open Go.RowKit Go.Proofs.YtadaopfcgpfiiaaW.PrintWords Go.Proofs.YtadaopfcgpfiiaaW.PrintLast Go.Proofs.YtadaopfcgpfiiaaW.PrintMore PCg
set_option linter.unusedVariables false
set_option linter.unusedSimpArgs false
def toR (x : S105) : S106 := ⟨x.f0, x.f1, x.f2⟩
theorem rd_toR (refs : List S105) (r : Nat) (h : r < refs.length) : rd_T106 (refs.map toR) r = toR (rd_T105 refs r) := by
  simp only [rd_T106, rd_T105, List.getD_eq_getElem?_getD, Int.toNat_natCast, List.getElem?_map, List.getElem?_eq_getElem h, Option.map_some, Option.getD_some]
def RSt (w : World) (code : List S53) (refs : List S105) (k : Int) (r : Nat) (W : World) : Prop := Below w.heap.size w W ∧ vTo code refs k.toNat = some r ∧ r ≤ refs.length
set_option maxRecDepth 100000 in
set_option maxHeartbeats 2000000 in
theorem refValid_any (A : Option Addr) (c : Nat) (code : List S53) (data : Int) (A2 : Option Addr) (c2 : Nat) (refs : List S105) (w : World)
    (hr : Kd.C k53 w A code.length code) (hcp : code.length ≤ c) (hr2 : Kd.C k106 w A2 refs.length (refs.map toR)) (hcp2 : refs.length ≤ c2) (hm : code.length ≤ 1000000) (hm2 : refs.length ≤ 1000000) (hop : ∀ x ∈ code, 0 ≤ x.f0 ∧ x.f0 < 256) :
    Calls Try.prog 16 #[.slice A code.length c, .int .i64 data, .slice A2 refs.length c2] w fun e w' => e = .returned (.bool (objB code data refs)) ∧ Below w.heap.size w w' := by
  have HR := Aside0.mk hr; have HR2 := Aside0.mk hr2; have HOP := Aside0.mk hop
  clear hr hr2 hop
  have hu := Try.underlying53
  have hu3 := Try.underlying106
  by_cases b1 : (1 : Int) ≤ code.length ∧ (code.length : Int) ≤ 4096 ∧ 0 ≤ data ∧ data ≤ 512
  · obtain ⟨b1, b2, b3, b4⟩ := b1
    have d1 : ((code.length : Int) < 1) = False := eq_false (by omega)
    have d2 : ((code.length : Int) > 4096) = False := eq_false (by omega)
    have d3 : (data < 0) = False := eq_false (by omega)
    have d4 : (data > 512) = False := eq_false (by omega)
    go_enter Try.func16, Try.ntmps16
    go_wp2_with fail
    go_loopw [7, 8] (fun v j W => ∃ (k : Int) (r : Nat), j = .int .i64 k ∧ v = .int .i64 (r : Int) ∧ 0 ≤ k ∧ k ≤ code.length ∧ r ≤ refs.length ∧ Aside0 (RSt w code refs k r W)) (fun v j W => code.length - (intOf j).toNat)
    case atStart => exact ⟨0, 0, rfl, rfl, Int.le_refl _, by omega, Nat.zero_le _, ⟨Below.refl _ _, rfl, Nat.zero_le _⟩⟩
    case round =>
      obtain ⟨k, r, rfl, rfl, hk0, hk, hrl, hV⟩ := hrel
      have HV := hV
      clear hV
      by_cases hlt : k < code.length
      · have p1 := eq_true hk0
        have q1 := eq_true hlt
        obtain ⟨ad, hA, x0, x1, x2, x3, x4⟩ := at_T53 (Kd.C_below HR.out HV.out.1) k hk0 hlt
        cases hA
        have hvt := HV.out.2.1
        have hxo := HOP.out (rd_T53 code k) (mem_rd (z := z53) hk0 hlt)
        obtain ⟨kn, hkn⟩ : ∃ kn : Nat, k.toNat = kn := ⟨_, rfl⟩
        have hkk : (kn : Int) = k := by omega
        have hst : vTo code refs (kn + 1) = vStep code.length refs (rd_T53 code k) k r := by
          rw [vTo, ← hkn, hvt, hkn, hkk]; rfl
        obtain ⟨x, hx⟩ : ∃ x, rd_T53 code k = x := ⟨_, rfl⟩
        rw [hx] at x0 x1 x2 x3 x4 hxo hst
        have HST := Aside0.mk hst; have HXO := Aside0.mk hxo
        have HKN := Aside0.mk hkn
        have hkl : kn < code.length := by omega
        have HNO : Aside0 (vStep code.length refs x k r = none → objB code data refs = false) := ⟨fun h => objB_no hkl (hst.trans h)⟩
        have hwk : IntKind.i64.wrap (k + 1) = k + 1 := IntWalk.i64_in _ (by omega)
        have hwr : IntKind.i64.wrap ((r : Int) + 1) = (r : Int) + 1 := IntWalk.i64_in _ (by omega)
        clear hvt hxo hst hx hkn
        go_wp2_with fail
        have hbx := below_alloc (Below.refl wr.heap.size wr) (.cells #[.int .u8 x.f0, .int .i64 x.f1, .int .i64 x.f2, .int .i64 x.f3, .int .i64 x.f4] 53)
        have hnx := blk_new wr (.cells #[.int .u8 x.f0, .int .i64 x.f1, .int .i64 x.f2, .int .i64 x.f3, .int .i64 x.f4] 53)
        refine (ref04_all x _ HXO.out.1 HXO.out.2).mono ?_
        rintro e w5 ⟨rfl, hb5⟩
        have HB5 := Aside0.mk (below_step hbx hb5)
        have HX5 := Aside0.mk (blk_below hnx hb5)
        clear hbx hnx hb5 x0 x1 x2 x3 x4
        have HW5 := Aside0.mk (below_step HV.out.1 HB5.out)
        cases hib : instrB x with
        | false =>
          have HN := Aside0.mk (HNO.out (by simp [vStep, hib]))
          clear hib
          go_wp2_with fail
          go_ret
          exact ⟨congrArg (fun b => Ending.returned (Value.bool b)) HN.out.symm, HW5.out⟩
        | true =>
          have HIM := Aside0.mk (instrB_imm hib)
          have HIB := Aside0.mk hib; clear hib
          obtain ⟨x0, x1, x2, x3, x4⟩ := blk5 HX5.out
          have hwt : IntKind.i64.wrap (k + 1 + x.f4) = k + 1 + x.f4 := IntWalk.i64_in _ (by have := HIM.out; omega)
          have HSame : Aside0 (brOk x k code.length = true → refKind x.f0 = none → RSt w code refs (k + 1) r w5) := ⟨fun h1 h2 => ⟨HW5.out, by rw [show (k + 1).toNat = kn + 1 by have := HKN.out; omega, HST.out]; simp [vStep, HIB.out, h1, h2], hrl⟩⟩
          by_cases hbr : 22 ≤ x.f0 ∧ x.f0 ≤ 24
          · have HRK := Aside0.mk (show refKind x.f0 = none from by unfold refKind; rw [if_neg (by omega), if_neg (by omega)])
            have HBR := Aside0.mk hbr
            obtain ⟨op, hop⟩ : ∃ op, x.f0 = op := ⟨_, rfl⟩
            obtain ⟨m, hm4⟩ : ∃ m, x.f4 = m := ⟨_, rfl⟩
            have HM4 := Aside0.mk hm4
            rw [hop] at x0 hbr
            rw [hm4] at x4 hwt
            clear hop hm4
            have hc3 : op = 22 ∨ op = 23 ∨ op = 24 := by omega
            clear hbr
            by_cases ht0 : k + 1 + m < 0
            · have HN := Aside0.mk (HNO.out (by
                have h : brOk x k code.length = false := by unfold brOk; rw [if_pos HBR.out, HM4.out]; simp; omega
                simp [vStep, h]))
              rcases hc3 with rfl | rfl | rfl
              all_goals
                go_wp2_with fail
                go_ret
                exact ⟨congrArg (fun b => Ending.returned (Value.bool b)) HN.out.symm, HW5.out⟩
            · by_cases ht1 : k + 1 + m ≥ code.length
              · have HN := Aside0.mk (HNO.out (by
                  have h : brOk x k code.length = false := by unfold brOk; rw [if_pos HBR.out, HM4.out]; simp; omega
                  simp [vStep, h]))
                rcases hc3 with rfl | rfl | rfl
                all_goals
                  go_wp2_with fail
                  go_ret
                  exact ⟨congrArg (fun b => Ending.returned (Value.bool b)) HN.out.symm, HW5.out⟩
              · have HG := Aside0.mk (HSame.out (by unfold brOk; rw [if_pos HBR.out, HM4.out]; simp; omega) HRK.out)
                rcases hc3 with rfl | rfl | rfl
                all_goals
                  go_wp2_with fail
                  refine ⟨⟨k + 1, r, rfl, rfl, by omega, by omega, hrl, HG⟩, ?_⟩
                  simp [intOf]; omega
          · have HBR := Aside0.mk (show brOk x k code.length = true from by unfold brOk; rw [if_neg hbr])
            by_cases hcs : x.f0 = 20 ∨ x.f0 = 21 ∨ x.f0 = 28 ∨ x.f0 = 29
            · obtain ⟨op, hop⟩ : ∃ op, x.f0 = op := ⟨_, rfl⟩
              obtain ⟨l, hrk, hopl⟩ : ∃ l, refKind x.f0 = some l ∧ ((l = false ∧ (op = 20 ∨ op = 21)) ∨ (l = true ∧ (op = 28 ∨ op = 29))) := by
                rw [hop] at hcs ⊢
                rcases hcs with rfl | rfl | rfl | rfl
                · exact ⟨false, rfl, .inl ⟨rfl, .inl rfl⟩⟩
                · exact ⟨false, rfl, .inl ⟨rfl, .inr rfl⟩⟩
                · exact ⟨true, rfl, .inr ⟨rfl, .inl rfl⟩⟩
                · exact ⟨true, rfl, .inr ⟨rfl, .inr rfl⟩⟩
              rw [hop] at x0
              have HRK := Aside0.mk hrk
              clear hrk hop hcs hbr
              by_cases hl0 : (r : Int) < refs.length
              · have hrn : r < refs.length := by omega
                obtain ⟨ad2, hA2, y0, y1, y2⟩ := at_T106 (Kd.C_below HR2.out HW5.out) (r : Int) (by omega) hl0
                cases hA2
                rw [rd_toR refs r hrn] at y0 y1 y2
                obtain ⟨a0, ha0⟩ : ∃ a0, (rd_T105 refs r).f0 = a0 := ⟨_, rfl⟩
                obtain ⟨b0, hb0⟩ : ∃ b0, (rd_T105 refs r).f2 = b0 := ⟨_, rfl⟩
                have HS : Aside0 (vStep code.length refs x k r = if a0 = k ∧ b0 = l then some (r + 1) else none) := ⟨by
                  rw [← ha0, ← hb0]
                  simp [vStep, HBR.out, HIB.out, HRK.out, hrn]⟩
                simp only [toR, Int.toNat_natCast] at y0 y1 y2
                rw [ha0] at y0
                rw [hb0] at y2
                have pr : (0 : Int) ≤ (r : Int) := by omega
                have PR := eq_true pr
                have QR := eq_true hl0
                clear ha0 hb0
                by_cases hak : a0 = k
                · rcases hopl with ⟨rfl, ho⟩ | ⟨rfl, ho⟩
                  · cases b0
                    · rcases ho with rfl | rfl
                      all_goals
                       have HG := Aside0.mk (HS.out.trans (if_pos ⟨hak, rfl⟩))
                       have HG2 : Aside0 (RSt w code refs (k + 1) (r + 1) w5) := ⟨HW5.out, by rw [show (k + 1).toNat = kn + 1 by have := HKN.out; omega]; exact HST.out.trans HG.out, hrn⟩
                       go_wp2_with fail
                       refine ⟨⟨k + 1, r + 1, rfl, by simp, by omega, by omega, hrn, HG2⟩, ?_⟩
                       simp [intOf]; omega
                    · rcases ho with rfl | rfl
                      all_goals
                       have HN := Aside0.mk (HNO.out (by rw [HS.out, if_neg (fun h => by cases h.2)]))
                       go_wp2_with fail
                       go_ret
                       exact ⟨congrArg (fun b => Ending.returned (Value.bool b)) HN.out.symm, HW5.out⟩
                  · cases b0
                    · rcases ho with rfl | rfl
                      all_goals
                       have HN := Aside0.mk (HNO.out (by rw [HS.out, if_neg (fun h => by cases h.2)]))
                       go_wp2_with fail
                       go_ret
                       exact ⟨congrArg (fun b => Ending.returned (Value.bool b)) HN.out.symm, HW5.out⟩
                    · rcases ho with rfl | rfl
                      all_goals
                       have HG := Aside0.mk (HS.out.trans (if_pos ⟨hak, rfl⟩))
                       have HG2 : Aside0 (RSt w code refs (k + 1) (r + 1) w5) := ⟨HW5.out, by rw [show (k + 1).toNat = kn + 1 by have := HKN.out; omega]; exact HST.out.trans HG.out, hrn⟩
                       go_wp2_with fail
                       refine ⟨⟨k + 1, r + 1, rfl, by simp, by omega, by omega, hrn, HG2⟩, ?_⟩
                       simp [intOf]; omega
                · have HN := Aside0.mk (HNO.out (by rw [HS.out, if_neg (fun h => hak h.1)]))
                  rcases hopl with ⟨rfl, rfl | rfl⟩ | ⟨rfl, rfl | rfl⟩
                  all_goals
                    go_wp2_with fail
                    go_ret
                    exact ⟨congrArg (fun b => Ending.returned (Value.bool b)) HN.out.symm, HW5.out⟩
              · have HN := Aside0.mk (HNO.out (by
                  have h1 : ¬ r < refs.length := by omega
                  simp [vStep, HBR.out, HIB.out, HRK.out, h1]))
                rcases hopl with ⟨rfl, rfl | rfl⟩ | ⟨rfl, rfl | rfl⟩
                all_goals
                  go_wp2_with fail
                  go_ret
                  exact ⟨congrArg (fun b => Ending.returned (Value.bool b)) HN.out.symm, HW5.out⟩
            · have HG := Aside0.mk (HSame.out HBR.out (by unfold refKind; rw [if_neg (by omega), if_neg (by omega)]))
              obtain ⟨op, hop⟩ : ∃ op, x.f0 = op := ⟨_, rfl⟩
              rw [hop] at x0 hbr hcs
              have e1 : (op == 20) = false := beq_eq_false_iff_ne.2 (by omega)
              have e2 : (op == 21) = false := beq_eq_false_iff_ne.2 (by omega)
              have e3 : (op == 22) = false := beq_eq_false_iff_ne.2 (by omega)
              have e4 : (op == 23) = false := beq_eq_false_iff_ne.2 (by omega)
              have e5 : (op == 24) = false := beq_eq_false_iff_ne.2 (by omega)
              have e6 : (op == 28) = false := beq_eq_false_iff_ne.2 (by omega)
              have e7 : (op == 29) = false := beq_eq_false_iff_ne.2 (by omega)
              clear hbr hcs hop
              go_wp2_with fail
              refine ⟨⟨k + 1, r, rfl, rfl, by omega, by omega, hrl, HG⟩, ?_⟩
              simp [intOf]; omega
      · have hke : k.toNat = code.length := by omega
        have hvt := HV.out.2.1
        rw [hke] at hvt
        have HE : Aside0 (((r : Int) == (refs.length : Int)) = objB code data refs) := ⟨by
          unfold objB
          rw [hvt]
          by_cases hr : r = refs.length
          · simp [hr]
            omega
          · have h5 : ((r : Int) == (refs.length : Int)) = false := beq_eq_false_iff_ne.2 (by omega)
            have h6 : ((some r : Option Nat) == some refs.length) = false := beq_eq_false_iff_ne.2 (fun h => hr (Option.some.inj h))
            rw [h5, h6, Bool.and_false]⟩
        clear hvt hke
        go_wp2_with fail
        go_ret
        exact ⟨congrArg (fun b => Ending.returned (Value.bool b)) HE.out, HV.out.1⟩
  · have HN : Aside0 (objB code data refs = false) := ⟨by
      unfold objB
      rw [Bool.eq_false_iff]
      intro h
      simp only [Bool.and_eq_true, decide_eq_true_eq] at h
      omega⟩
    by_cases d1 : (code.length : Int) < 1
    · go_enter Try.func16, Try.ntmps16
      go_wp2_with fail
      go_ret
      exact ⟨congrArg (fun b => Ending.returned (Value.bool b)) HN.out.symm, Below.refl _ _⟩
    · by_cases d2 : (code.length : Int) > 4096
      · go_enter Try.func16, Try.ntmps16
        go_wp2_with fail
        go_ret
        exact ⟨congrArg (fun b => Ending.returned (Value.bool b)) HN.out.symm, Below.refl _ _⟩
      · by_cases d3 : data < 0
        · go_enter Try.func16, Try.ntmps16
          go_wp2_with fail
          go_ret
          exact ⟨congrArg (fun b => Ending.returned (Value.bool b)) HN.out.symm, Below.refl _ _⟩
        · have d4 : data > 512 := by omega
          go_enter Try.func16, Try.ntmps16
          go_wp2_with fail
          go_ret
          exact ⟨congrArg (fun b => Ending.returned (Value.bool b)) HN.out.symm, Below.refl _ _⟩
end Go.Proofs.Ytadaopfcgpfiiaa
namespace Go.Proofs.Ytadaopfcgpfiiaa
open Go.RowKit Go.Proofs.YtadaopfcgpfiiaaW.PrintWords Go.Proofs.YtadaopfcgpfiiaaW.PrintLast Go.Proofs.YtadaopfcgpfiiaaW.PrintMore PCg
set_option linter.unusedVariables false
theorem plain_go (l : List S105) (hl : l.length ≤ 1000000) : ∀ n j fuel : Nat, j + n = l.length → n < fuel → ontimelaw21_plain.l0 fuel l ((l.take j).map toR) (j : Int) = some (l.map toR) := by
  intro n
  induction n with
  | zero =>
    intro j fuel hj hf
    obtain ⟨f, rfl⟩ : ∃ f, fuel = f + 1 := ⟨fuel - 1, by omega⟩
    unfold ontimelaw21_plain.l0
    rw [if_neg (by omega), List.take_of_length_le (by omega)]
  | succ n ih =>
    intro j fuel hj hf
    obtain ⟨f, rfl⟩ : ∃ f, fuel = f + 1 := ⟨fuel - 1, by omega⟩
    unfold ontimelaw21_plain.l0
    rw [if_pos (by omega), if_pos (by omega), if_pos (by rw [List.length_map, List.length_take]; omega), w64 (by omega)]
    have h := ih (j + 1) f (by omega) (by omega)
    rw [List.take_add_one, List.getElem?_eq_getElem (by omega)] at h
    simp only [Option.toList_some, List.map_append, List.map_cons, List.map_nil] at h
    have e : rd_T105 l (j : Int) = l[j] := by
      simp only [rd_T105, List.getD_eq_getElem?_getD, Int.toNat_natCast]
      rw [List.getElem?_eq_getElem (by omega)]
      rfl
    rw [e]
    exact h
theorem plain_f (l : List S105) (hl : l.length ≤ 1000000) : ontimelaw21_plain.f (l.length + 1) l = some (l.map toR) := plain_go l hl l.length 0 _ (by omega) (by omega)
end Go.Proofs.Ytadaopfcgpfiiaa
namespace Go.Proofs.Ytadaopfcgpfiiaa
open Go.RowKit Go.Proofs.YtadaopfcgpfiiaaW.PrintWords Go.Proofs.YtadaopfcgpfiiaaW.PrintLast Go.Proofs.YtadaopfcgpfiiaaW.PrintMore PCg
set_option linter.unusedVariables false
set_option linter.unusedSimpArgs false
set_option maxRecDepth 100000 in
set_option maxHeartbeats 2000000 in
theorem lawTells_any (nm : ByteArray) (A : Option Addr) (c : Nat) (code : List S53) (data : Int) (A2 : Option Addr) (c2 : Nat) (refs : List S105) (w : World)
    (hr : Kd.C k53 w A code.length code) (hcp : code.length ≤ c) (hr2 : Kd.C k105 w A2 refs.length refs) (hcp2 : refs.length ≤ c2) (hop : ∀ x ∈ code, 0 ≤ x.f0 ∧ x.f0 < 256) :
    Calls Try.prog 4 #[.agg #[.string nm, .slice A code.length c, .int .i64 data, .slice A2 refs.length c2]] w fun e w' => e = .returned (.bool true) ∧ Below w.heap.size w w' := by
  have HR := Aside0.mk hr; have HR2 := Aside0.mk hr2; have HOP := Aside0.mk hop
  clear hr hr2 hop
  have hu := Try.underlying53
  have hu2 := Try.underlying31
  have hu3 := Try.underlying105
  have HBA := Aside0.mk (below_alloc (Below.refl w.heap.size w) (.cells #[.string nm, .slice A code.length c, .int .i64 data, .slice A2 refs.length c2] 31))
  have HO := Aside0.mk (blk_new w (.cells #[.string nm, .slice A code.length c, .int .i64 data, .slice A2 refs.length c2] 31))
  go_enter Try.func4, Try.ntmps4
  go_wp2_with fail
  refine (awake_any _).mono ?_
  rintro e w1 ⟨rfl, hb1⟩
  have hO1 := blk_below HO.out hb1
  have HB1 := Aside0.mk (below_step HBA.out hb1)
  have hlF := blk_lt hO1
  have HO1 := Aside0.mk hO1
  clear hb1 hO1 HO HBA
  obtain ⟨o0, o1, o2, o3⟩ := blk4 HO1.out
  by_cases h1 : (60 : Int) < code.length
  · have b1 := decide_eq_true h1
    go_wp2
    go_ret
    exact ⟨rfl, HB1.out⟩
  have b1 := decide_eq_false h1
  by_cases h2 : (60 : Int) < refs.length
  · have b2 := decide_eq_true h2
    go_wp2
    go_ret
    exact ⟨rfl, HB1.out⟩
  have b2 := decide_eq_false h2
  go_wp2_with fail
  have HV : Aside0 (∀ b, objB code data refs = b → ∀ W, Below w1.heap.size w1 W → Calls Try.prog 14 #[.agg #[.string nm, .slice A code.length c, .int .i64 data, .slice A2 refs.length c2]] W fun e w' => e = .returned (.bool b) ∧ Below W.heap.size W w') :=
    ⟨fun b hb W hW => hb ▸ cgValid_any nm A c code data A2 c2 refs W (Kd.C_below HR.out (below_step HB1.out hW)) hcp (Kd.C_below HR2.out (below_step HB1.out hW)) hcp2 (by omega) (by omega) HOP.out⟩
  have HP : Aside0 (∀ W, Below w1.heap.size w1 W → Calls Try.prog 17 #[.slice A2 refs.length c2] W fun e w' => ∃ A3 c3, e = .returned (.slice A3 refs.length c3) ∧ refs.length ≤ c3 ∧ Kd.C k106 w' A3 refs.length (refs.map toR) ∧ Below W.heap.size W w') := ⟨fun W hW => by
    refine (ontimelaw21_plain.calls (refs.length + 1) A2 c2 refs _ W (Kd.C_below HR2.out (below_step HB1.out hW)) hcp2 (plain_f refs (by omega))).mono ?_
    rintro e w' ⟨v, rfl, hR, hb⟩
    obtain ⟨A3, c3, rfl, hl, hC⟩ := Kd.R_reads hR
    rw [List.length_map] at hl hC
    exact ⟨A3, c3, by rw [List.length_map], hl, hC, hb⟩⟩
  have HW : Aside0 (∀ b, objB code data refs = b → ∀ A3 c3 W, Below w1.heap.size w1 W → Kd.C k106 W A3 refs.length (refs.map toR) → refs.length ≤ c3 → Calls Try.prog 16 #[.slice A code.length c, .int .i64 data, .slice A3 refs.length c3] W fun e w' => e = .returned (.bool b) ∧ Below W.heap.size W w') :=
    ⟨fun b hb A3 c3 W hW hC hl => hb ▸ refValid_any A c code data A3 c3 refs W (Kd.C_below HR.out (below_step HB1.out hW)) hcp hC hl (by omega) (by omega) HOP.out⟩
  cases hv : objB code data refs with
  | true =>
    have HVV := Aside0.mk hv; clear hv
    go_region_held3 (fun W => W.cell? ⟨w.heap.size, 0, none⟩ = some (.string nm) ∧ W.cell? ⟨w.heap.size, 1, none⟩ = some (.slice A code.length c) ∧ W.cell? ⟨w.heap.size, 2, none⟩ = some (.int .i64 data) ∧ W.cell? ⟨w.heap.size, 3, none⟩ = some (.slice A2 refs.length c2) ∧ Aside0 (Below w1.heap.size w1 W))
      (first
        | (go_split_ands; exact ⟨keepCell hlF (by assumption) hb2 (by assumption), keepCell hlF (by assumption) hb2 (by assumption), keepCell hlF (by assumption) hb2 (by assumption), keepCell hlF (by assumption) hb2 (by assumption), keepBelow (by assumption) hb2⟩)
        | exact ⟨by go_keep, by go_keep, by go_keep, by go_keep, ⟨below_drew (Below.refl _ _)⟩⟩)
      (first
        | (go_at_call 14
           with_reducible refine (HV.out true HVV.out _ (Aside0.out ?_)).mono ?_
           (go_split_ands; assumption)
           rintro e w2 ⟨rfl, hb2⟩)
        | (go_at_call 17
           with_reducible refine (HP.out _ (Aside0.out ?_)).mono ?_
           (go_split_ands; assumption)
           rintro e w3 ⟨A3, c3, rfl, hl3, hC3, hb2⟩
           have HC3 := Aside0.mk hC3; have HL3 := Aside0.mk hl3; clear hC3 hl3)
        | (go_at_call 16
           with_reducible refine (HW.out true HVV.out A3 c3 _ (Aside0.out ?_) HC3.out HL3.out).mono ?_
           (go_split_ands; assumption)
           rintro e w4 ⟨rfl, hb2⟩))
    have HB5 : Aside0 (Below w1.heap.size w1 w4) := ⟨by go_split_ands; exact Aside0.out (by assumption)⟩
    go_wp2
    go_ret
    exact ⟨rfl, below_step HB1.out HB5.out⟩
  | false =>
    have HVV := Aside0.mk hv; clear hv
    go_region_held3 (fun W => W.cell? ⟨w.heap.size, 0, none⟩ = some (.string nm) ∧ W.cell? ⟨w.heap.size, 1, none⟩ = some (.slice A code.length c) ∧ W.cell? ⟨w.heap.size, 2, none⟩ = some (.int .i64 data) ∧ W.cell? ⟨w.heap.size, 3, none⟩ = some (.slice A2 refs.length c2) ∧ Aside0 (Below w1.heap.size w1 W))
      (first
        | (go_split_ands; exact ⟨keepCell hlF (by assumption) hb2 (by assumption), keepCell hlF (by assumption) hb2 (by assumption), keepCell hlF (by assumption) hb2 (by assumption), keepCell hlF (by assumption) hb2 (by assumption), keepBelow (by assumption) hb2⟩)
        | exact ⟨by go_keep, by go_keep, by go_keep, by go_keep, ⟨below_drew (Below.refl _ _)⟩⟩)
      (first
        | (go_at_call 14
           with_reducible refine (HV.out false HVV.out _ (Aside0.out ?_)).mono ?_
           (go_split_ands; assumption)
           rintro e w2 ⟨rfl, hb2⟩)
        | (go_at_call 17
           with_reducible refine (HP.out _ (Aside0.out ?_)).mono ?_
           (go_split_ands; assumption)
           rintro e w3 ⟨A3, c3, rfl, hl3, hC3, hb2⟩
           have HC3 := Aside0.mk hC3; have HL3 := Aside0.mk hl3; clear hC3 hl3)
        | (go_at_call 16
           with_reducible refine (HW.out false HVV.out A3 c3 _ (Aside0.out ?_) HC3.out HL3.out).mono ?_
           (go_split_ands; assumption)
           rintro e w4 ⟨rfl, hb2⟩))
    have HB5 : Aside0 (Below w1.heap.size w1 w4) := ⟨by go_split_ands; exact Aside0.out (by assumption)⟩
    go_wp2
    go_ret
    exact ⟨rfl, below_step HB1.out HB5.out⟩
end Go.Proofs.Ytadaopfcgpfiiaa
