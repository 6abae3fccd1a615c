/- Lemmas: what the theorem of the claim's last text needs, joined by a program out of the seat's texts L5, N0, N1. -/
import Derived.Test.YtadaopfcgpfiiaaBaseX35
import Derived.Test.YtadaopfcgpfiiaaBaseX13
import Derived.Test.YtadaopfcgpfiiaaBaseX20
import Derived.Test.YtadaopfcgpfiiaaBaseX26
namespace Go.Proofs.Ytadaopfcgpfiiaa
open Go.RowKit Go.Proofs.YtadaopfcgpfiiaaW.PrintWords Go.Proofs.YtadaopfcgpfiiaaW.PrintLast Go.Proofs.YtadaopfcgpfiiaaW.PrintMore PCg
set_option linter.unusedVariables false
set_option linter.unusedSimpArgs false
/-- does an opcode access a shared object, and its lock -/
def refKind (op : Int) : Option Bool := if op = 20 ∨ op = 21 then some false else if op = 28 ∨ op = 29 then some true else none
def brOk (x : S53) (k n : Int) : Bool := if 22 ≤ x.f0 ∧ x.f0 ≤ 24 then (decide (0 ≤ k + 1 + x.f4) && decide (k + 1 + x.f4 < n)) else true
/-- one instruction: how many references are taken behind it -/
def vStep (n : Int) (refs : List S105) (x : S53) (k : Int) (r : Nat) : Option Nat :=
  if instrB x && brOk x k n then
    match refKind x.f0 with
    | none => some r
    | some l => if r < refs.length ∧ (rd_T105 refs r).f0 = k ∧ (rd_T105 refs r).f2 = l then some (r + 1) else none
  else none
def vTo (code : List S53) (refs : List S105) : Nat → Option Nat
  | 0 => some 0
  | k + 1 => (vTo code refs k).bind (vStep code.length refs (rd_T53 code k) k)
/-- an object is valid -/
def objB (code : List S53) (data : Int) (refs : List S105) : Bool :=
  decide (1 ≤ code.length) && decide (code.length ≤ 4096) && decide (0 ≤ data) && decide (data ≤ 512) && (vTo code refs code.length == some refs.length)
theorem reference_f (op : Int) : codegen_reference.f 10 op = some ((refKind op).isSome, (refKind op).getD false) := by
  by_cases h1 : op = 20
  · subst h1; rfl
  by_cases h2 : op = 21
  · subst h2; rfl
  by_cases h3 : op = 28
  · subst h3; rfl
  by_cases h4 : op = 29
  · subst h4; rfl
  have h5 : (op == 21) = false := beq_eq_false_iff_ne.2 h2
  have h6 : refKind op = none := by unfold refKind; rw [if_neg (by omega), if_neg (by omega)]
  rw [h6]
  unfold codegen_reference.f
  rw [if_neg h1, h5]
  simp [codegen_reference.j0, h3, h4]
theorem target_f (x : S53) (k : Int) (h0 : 0 ≤ k) (h1 : k ≤ 1000000) (h2 : -1000000 ≤ x.f4) (h3 : x.f4 ≤ 1000000) : isa_Target.f x.f0 x.f1 x.f2 x.f3 x.f4 k = some (if 22 ≤ x.f0 ∧ x.f0 ≤ 24 then (k + 1 + x.f4, true) else (0, false)) := by
  unfold isa_Target.f isa_IsBranch.f
  rw [w64 (n := k + 1) (by omega), w64 (n := k + 1 + x.f4) (by omega)]
  by_cases h : x.f0 ≥ 22
  · by_cases h4 : x.f0 ≤ 24
    · simp [h, h4]
    · simp [h, h4]
  · have : ¬ (22 ≤ x.f0) := h
    simp [this]
theorem vTo_none {code : List S53} {refs : List S105} {k : Nat} (h : vTo code refs k = none) : ∀ d, vTo code refs (k + d) = none := by
  intro d
  induction d with
  | zero => exact h
  | succ d ih => rw [← Nat.add_assoc, vTo, ih]; rfl
theorem objB_no {code : List S53} {data : Int} {refs : List S105} {k : Nat} (hk : k < code.length) (h : vTo code refs (k + 1) = none) : objB code data refs = false := by
  have h2 := vTo_none h (code.length - (k + 1))
  rw [show k + 1 + (code.length - (k + 1)) = code.length by omega] at h2
  unfold objB
  rw [h2]
  simp
theorem instrB_imm {x : S53} (h : instrB x = true) : -1000000 ≤ x.f4 ∧ x.f4 ≤ 1000000 := by
  unfold instrB at h
  cases hf : fmtOf x.f0 with
  | none => rw [hf] at h; cases h
  | some p =>
    obtain ⟨n, lo, hi⟩ := p
    rw [hf] at h
    have hb : -1000000 ≤ lo ∧ hi ≤ 1000000 := by
      unfold fmtOf at hf
      repeat' split at hf
      all_goals first | (cases hf; done) | (cases hf; constructor <;> decide)
    simp only [Bool.and_eq_true] at h
    obtain ⟨_, h⟩ := h
    split at h
    · have := beq_iff_eq.1 h; omega
    · simp only [Bool.and_eq_true, decide_eq_true_eq] at h; omega
theorem cut_refs (A : Option Addr) (n c : Nat) (hn : 1 ≤ n) : ∃ A' : Option Addr, (∀ W : World, (Instr.slice 29 (.slice A n c) (some (.int .i64 1)) none none).run Try.prog W = .ok (.slice A' (n - 1) (c - 1)) W) ∧
    ∀ (w : World) (xs : List S105), xs.length = n → n ≤ c → Kd.C k105 w A n xs → Kd.C k105 w A' (n - 1) (xs.drop 1) := by
  have hi : ∃ i, Try.prog.info? 105 = some i ∧ i.size = 3 := ⟨(Try.prog.info? 105).get (by kernel_rfl), by kernel_rfl, by kernel_rfl⟩
  obtain ⟨i, hi, hsz⟩ := hi
  have ht : Try.prog.underlying 29 = some (.slice 105) := by kernel_rfl
  refine ⟨if c = 1 then A else A.map (·.add (1 * 3)), fun W => ?_, fun w xs hl hc h => ?_⟩
  · have hel : Try.prog.elem 29 = 105 := by simp [Program.elem, ht]
    have hu : Try.prog.underlying 29 = some (.slice (Try.prog.elem 29)) := by rw [hel]; exact ht
    have h := run_slice_l W 29 A n c hu .i64 ((1 : Nat) : Int) (Int.natCast_nonneg _) (by omega)
    rw [hel] at h
    refine h.trans ?_
    simp [sizeOf, typeInfo, hi, hsz, sliced, Result.andThen]
  · have h2 := Kd.C_drop (m := 1) (c := c) (hl ▸ h) (by omega) (by omega)
    rw [List.length_drop, hl] at h2
    exact h2
/-- the loop of Valid -/
def VSt (w : World) (code : List S53) (refs : List S105) (bo : Nat) (o : Obj) (k : Int) (rs : List S105) (A : Option Addr) (c : Nat) (W : World) : Prop :=
  Below w.heap.size w W ∧ W.heap[bo]? = some o ∧ Kd.C k105 w A rs.length rs ∧ rs.length ≤ c ∧ ∃ r, vTo code refs k.toNat = some r ∧ r ≤ refs.length ∧ rs = refs.drop r
set_option maxRecDepth 100000 in
set_option maxHeartbeats 2000000 in
theorem cgValid_any (nm : ByteArray) (A : Option Addr) (c : Nat) (code : List S53) (data : Int) (A2 : Option Addr) (c2 : Nat) (refs : List S105) (w : World)
    (hr : Kd.C k53 w A code.length code) (hcp : code.length ≤ c) (hr2 : Kd.C k105 w A2 refs.length refs) (hcp2 : refs.length ≤ c2) (hm : code.length ≤ 1000000) (hm2 : refs.length ≤ 1000000) (hop : ∀ x ∈ code, 0 ≤ x.f0 ∧ x.f0 < 256) :
    Calls Try.prog 14 #[.agg #[.string nm, .slice A code.length c, .int .i64 data, .slice A2 refs.length c2]] w fun e w' => e = .returned (.bool (objB code data refs)) ∧ Below w.heap.size w w' := by
  have HR := Aside0.mk hr; have HR2 := Aside0.mk hr2; have HOP := Aside0.mk hop
  clear hr hr2 hop
  have hu := Try.underlying53
  have hu2 := Try.underlying31
  have hu3 := Try.underlying105
  have HB1 := Aside0.mk (below_alloc (Below.refl w.heap.size w) (.cells #[.string nm, .slice A code.length c, .int .i64 data, .slice A2 refs.length c2] 31))
  have HO1 : Aside0 (_ = _) := Aside0.mk (blk_new w (.cells #[.string nm, .slice A code.length c, .int .i64 data, .slice A2 refs.length c2] 31))
  obtain ⟨o0, o1, o2, o3⟩ := blk4 HO1.out
  by_cases b1 : (1 : Int) ≤ code.length ∧ (code.length : Int) ≤ 4096 ∧ 0 ≤ data ∧ data ≤ 512
  · obtain ⟨b1, b2, b3, b4⟩ := b1
    have d1 : ((code.length : Int) < 1) = False := eq_false (by omega)
    have d2 : ((code.length : Int) > 4096) = False := eq_false (by omega)
    have d3 : (data < 0) = False := eq_false (by omega)
    have d4 : (data > 512) = False := eq_false (by omega)
    go_enter Try.func14, Try.ntmps14
    go_wp2_with fail
    obtain ⟨W1, hW1⟩ : ∃ W1, w.alloc (.cells #[.string nm, .slice A code.length c, .int .i64 data, .slice A2 refs.length c2] 31) = W1 := ⟨_, rfl⟩
    rw [hW1] at HB1 HO1
    rw [hW1]
    clear o0 o1 o2 o3 hW1
    go_loopw [3, 35] (fun v j W => ∃ k : Int, j = .int .i64 k ∧ 0 ≤ k ∧ k ≤ code.length ∧ ∃ rs Ar cr, v = .slice Ar rs.length cr ∧ Aside0 (VSt w code refs w.heap.size (.cells #[.string nm, .slice A code.length c, .int .i64 data, .slice A2 refs.length c2] 31) k rs Ar cr W)) (fun v j W => code.length - (intOf j).toNat)
    case atStart => exact ⟨0, rfl, Int.le_refl _, by omega, refs, A2, c2, rfl, ⟨HB1.out, HO1.out, HR2.out, hcp2, 0, rfl, Nat.zero_le _, rfl⟩⟩
    case round =>
      obtain ⟨k, rfl, hk0, hk, rs, Ar, cr, rfl, hV⟩ := hrel
      have HV := hV
      clear hV
      by_cases hlt : k < code.length
      · have p1 := eq_true hk0
        have q1 := eq_true hlt
        obtain ⟨ad, hA, x0, x1, x2, x3, x4⟩ := at_T53 (Kd.C_below HR.out HV.out.1) k hk0 hlt
        cases hA
        obtain ⟨r, hvt, hrl, hrs⟩ := HV.out.2.2.2.2
        have hxo := HOP.out (rd_T53 code k) (mem_rd (z := z53) hk0 hlt)
        obtain ⟨kn, hkn⟩ : ∃ kn : Nat, k.toNat = kn := ⟨_, rfl⟩
        have hkk : (kn : Int) = k := by omega
        have hst : vTo code refs (kn + 1) = vStep code.length refs (rd_T53 code k) k r := by
          rw [vTo, ← hkn, hvt, hkn, hkk]; rfl
        obtain ⟨x, hx⟩ : ∃ x, rd_T53 code k = x := ⟨_, rfl⟩
        rw [hx] at x0 x1 x2 x3 x4 hxo hst
        have HST := Aside0.mk hst; have HXO := Aside0.mk hxo; have HRS := Aside0.mk hrs; have HRL := Aside0.mk hrl
        have HKN := Aside0.mk hkn
        have hkl : kn < code.length := by omega
        have HNO : Aside0 (vStep code.length refs x k r = none → objB code data refs = false) := ⟨fun h => objB_no hkl (hst.trans h)⟩
        clear hvt hrl hrs hxo hst hx hkn
        go_wp2_with fail
        have hbx := below_alloc (Below.refl wr.heap.size wr) (.cells #[.int .u8 x.f0, .int .i64 x.f1, .int .i64 x.f2, .int .i64 x.f3, .int .i64 x.f4] 53)
        have hnx := blk_new wr (.cells #[.int .u8 x.f0, .int .i64 x.f1, .int .i64 x.f2, .int .i64 x.f3, .int .i64 x.f4] 53)
        refine (isaValid_all x _ HXO.out.1 HXO.out.2).mono ?_
        rintro e w5 ⟨rfl, hb5⟩
        have HB5 := Aside0.mk (below_step hbx hb5)
        have HX5 := Aside0.mk (blk_below hnx hb5)
        clear hbx hnx hb5 x0 x1 x2 x3 x4
        have HO5 := Aside0.mk (blk_below HV.out.2.1 HB5.out)
        have HW5 := Aside0.mk (below_step HV.out.1 HB5.out)
        cases hib : instrB x with
        | false =>
          have HN := Aside0.mk (HNO.out (by simp [vStep, hib]))
          clear hib
          go_wp2_with fail
          go_ret
          exact ⟨congrArg (fun b => Ending.returned (Value.bool b)) HN.out.symm, HW5.out⟩
        | true =>
          have HIM := Aside0.mk (instrB_imm hib)
          have HIB := Aside0.mk hib; clear hib
          obtain ⟨x0, x1, x2, x3, x4⟩ := blk5 HX5.out
          have HRF := fun W => Aside0.mk (codegen_reference.calls 10 x.f0 _ _ W (reference_f x.f0))
          by_cases hbr : 22 ≤ x.f0 ∧ x.f0 ≤ 24
          · have HTG := fun W => Aside0.mk (isa_Target.calls x.f0 x.f1 x.f2 x.f3 x.f4 k (k + 1 + x.f4) true W (by rw [target_f x k hk0 (by omega) HIM.out.1 HIM.out.2, if_pos hbr]))
            have hrk : refKind x.f0 = none := by unfold refKind; rw [if_neg (by omega), if_neg (by omega)]
            rw [hrk] at HRF
            have HBR := Aside0.mk hbr; have HRK := Aside0.mk hrk; clear hbr hrk
            obtain ⟨t, ht⟩ : ∃ t, k + 1 + x.f4 = t := ⟨_, rfl⟩
            rw [ht] at HTG
            have HT := Aside0.mk ht; clear ht
            go_wp2_with fail
            refine (HTG _).out.mono ?_
            rintro e w6 ⟨rfl, hb6⟩
            have HW6 := Aside0.mk (below_step HW5.out hb6)
            have HO6 := Aside0.mk (blk_below HO5.out hb6)
            have HX6 := Aside0.mk (blk_below HX5.out hb6)
            clear hb6 HTG x0 x1 x2 x3 x4
            obtain ⟨x0, x1, x2, x3, x4⟩ := blk5 HX6.out
            obtain ⟨o0, o1, o2, o3⟩ := blk4 HO6.out
            by_cases ht0 : t < 0
            · have HN := Aside0.mk (HNO.out (by
                have h : brOk x k code.length = false := by unfold brOk; rw [if_pos HBR.out, HT.out]; simp; omega
                simp [vStep, h]))
              go_wp2_with fail
              go_ret
              exact ⟨congrArg (fun b => Ending.returned (Value.bool b)) HN.out.symm, HW6.out⟩
            · by_cases ht1 : t ≥ code.length
              · have HN := Aside0.mk (HNO.out (by
                  have h : brOk x k code.length = false := by unfold brOk; rw [if_pos HBR.out, HT.out]; simp; omega
                  simp [vStep, h]))
                go_wp2_with fail
                go_ret
                exact ⟨congrArg (fun b => Ending.returned (Value.bool b)) HN.out.symm, HW6.out⟩
              · have HS := Aside0.mk (show vStep code.length refs x k r = some r from by
                  have h : brOk x k code.length = true := by unfold brOk; rw [if_pos HBR.out, HT.out]; simp; omega
                  simp [vStep, h, HIB.out, HRK.out])
                go_wp2_with fail
                refine (HRF _).out.mono ?_
                rintro e w7 ⟨rfl, hd7⟩
                have HW7 := Aside0.mk (below_step HW6.out hd7.below)
                have HO7 := Aside0.mk (blk_below HO6.out hd7.below)
                clear hd7 HRF x0 x1 x2 x3 x4 o0 o1 o2 o3
                go_wp2
                go_roundw
                case rel => exact ⟨k + 1, rfl, by omega, by omega, rs, Ar, cr, rfl, ⟨HW7.out, HO7.out, HV.out.2.2.1, HV.out.2.2.2.1, r, by rw [show (k + 1).toNat = kn + 1 by omega]; exact HST.out.trans HS.out, HRL.out, HRS.out⟩⟩
                case measure => simp [intOf]; omega
          · have HTG := fun W => Aside0.mk (isa_Target.calls x.f0 x.f1 x.f2 x.f3 x.f4 k 0 false W (by rw [target_f x k hk0 (by omega) HIM.out.1 HIM.out.2, if_neg hbr]))
            have HBR := Aside0.mk (show brOk x k code.length = true from by unfold brOk; rw [if_neg hbr])
            clear hbr
            go_wp2_with fail
            refine (HTG _).out.mono ?_
            rintro e w6 ⟨rfl, hb6⟩
            have HW6 := Aside0.mk (below_step HW5.out hb6)
            have HO6 := Aside0.mk (blk_below HO5.out hb6)
            have HX6 := Aside0.mk (blk_below HX5.out hb6)
            clear hb6 HTG x0 x1 x2 x3 x4
            obtain ⟨x0, x1, x2, x3, x4⟩ := blk5 HX6.out
            go_wp2_with fail
            refine (HRF _).out.mono ?_
            rintro e w7 ⟨rfl, hd7⟩
            have HW7 := Aside0.mk (below_step HW6.out hd7.below)
            have HO7 := Aside0.mk (blk_below HO6.out hd7.below)
            clear hd7 HRF x0 x1 x2 x3 x4
            cases hrk : refKind x.f0 with
            | none =>
              have HS := Aside0.mk (show vStep code.length refs x k r = some r from by simp [vStep, HBR.out, HIB.out, hrk])
              clear hrk
              simp only [Option.isSome_none, Option.getD_none]
              go_wp2
              go_roundw
              case rel => exact ⟨k + 1, rfl, by omega, by omega, rs, Ar, cr, rfl, ⟨HW7.out, HO7.out, HV.out.2.2.1, HV.out.2.2.2.1, r, by rw [show (k + 1).toNat = kn + 1 by omega]; exact HST.out.trans HS.out, HRL.out, HRS.out⟩⟩
              case measure => simp [intOf]; omega
            | some l =>
              simp only [Option.isSome_some, Option.getD_some]
              have HRK := Aside0.mk hrk; clear hrk
              by_cases hl0 : rs.length = 0
              · have HN := Aside0.mk (HNO.out (by
                  have h1 : ¬ r < refs.length := by
                    have h2 := HRS.out
                    have h3 : rs.length = refs.length - r := by rw [h2, List.length_drop]
                    omega
                  simp [vStep, HBR.out, HIB.out, HRK.out, h1]))
                go_wp2_with fail
                go_ret
                exact ⟨congrArg (fun b => Ending.returned (Value.bool b)) HN.out.symm, HW7.out⟩
              · have hrn : r < refs.length := by
                  have h2 := HRS.out
                  have h3 : rs.length = refs.length - r := by rw [h2, List.length_drop]
                  omega
                have h0e : rd_T105 rs 0 = rd_T105 refs r := by
                  rw [HRS.out]
                  simp [rd_T105, List.getD_eq_getElem?_getD, List.getElem?_drop]
                obtain ⟨ad2, hA2, y0, y1, y2⟩ := at_T105 (Kd.C_below HV.out.2.2.1 HW7.out) 0 (by omega) (by omega)
                obtain ⟨A', hcut, hcutC⟩ := cut_refs Ar rs.length cr (by omega)
                have HCC := Aside0.mk (hcutC w rs rfl HV.out.2.2.2.1 HV.out.2.2.1)
                have hcr := HV.out.2.2.2.1
                cases hA2
                obtain ⟨a0, ha0⟩ : ∃ a0, (rd_T105 rs 0).f0 = a0 := ⟨_, rfl⟩
                obtain ⟨b0, hb0⟩ : ∃ b0, (rd_T105 rs 0).f2 = b0 := ⟨_, rfl⟩
                rw [ha0] at y0
                rw [hb0] at y2
                have HS : Aside0 (vStep code.length refs x k r = if a0 = k ∧ b0 = l then some (r + 1) else none) := ⟨by
                  rw [← ha0, ← hb0, h0e]
                  simp [vStep, HBR.out, HIB.out, HRK.out, hrn]⟩
                have pr : (0 : Int) < rs.length := by omega
                have PR := eq_true pr
                have hne : ((rs.length : Int) == 0) = false := beq_eq_false_iff_ne.2 (by omega)
                have HRN := Aside0.mk hrn
                clear hcutC h0e ha0 hb0 hrn pr
                have e0 : (ad2.add ((0 : Int).toNat * 3)) = ad2 := by simp [Addr.add]
                rw [e0] at y0 y1 y2
                by_cases hak : a0 = k
                · cases l with
                  | false =>
                    cases b0 with
                    | false =>
                      have HG := Aside0.mk (HS.out.trans (if_pos ⟨hak, rfl⟩))
                      go_wp2_with fail
                      refine ⟨⟨k + 1, rfl, by omega, by omega, rs.drop 1, A', cr - 1, by rw [List.length_drop], ⟨HW7.out, HO7.out, by rw [List.length_drop]; exact HCC.out, by rw [List.length_drop]; omega, r + 1, by rw [show (k + 1).toNat = kn + 1 by omega]; exact HST.out.trans HG.out, HRN.out, by rw [HRS.out, List.drop_drop]⟩⟩, ?_⟩
                      simp [intOf]; omega
                    | true =>
                      have HN := Aside0.mk (HNO.out (by rw [HS.out, if_neg (fun h => Bool.noConfusion h.2)]))
                      go_wp2_with fail
                      go_ret
                      exact ⟨congrArg (fun b => Ending.returned (Value.bool b)) HN.out.symm, HW7.out⟩
                  | true =>
                    cases b0 with
                    | false =>
                      have HN := Aside0.mk (HNO.out (by rw [HS.out, if_neg (fun h => Bool.noConfusion h.2)]))
                      go_wp2_with fail
                      go_ret
                      exact ⟨congrArg (fun b => Ending.returned (Value.bool b)) HN.out.symm, HW7.out⟩
                    | true =>
                      have HG := Aside0.mk (HS.out.trans (if_pos ⟨hak, rfl⟩))
                      go_wp2_with fail
                      refine ⟨⟨k + 1, rfl, by omega, by omega, rs.drop 1, A', cr - 1, by rw [List.length_drop], ⟨HW7.out, HO7.out, by rw [List.length_drop]; exact HCC.out, by rw [List.length_drop]; omega, r + 1, by rw [show (k + 1).toNat = kn + 1 by omega]; exact HST.out.trans HG.out, HRN.out, by rw [HRS.out, List.drop_drop]⟩⟩, ?_⟩
                      simp [intOf]; omega
                · have HN := Aside0.mk (HNO.out (by rw [HS.out, if_neg (fun h => hak h.1)]))
                  go_wp2_with fail
                  go_ret
                  exact ⟨congrArg (fun b => Ending.returned (Value.bool b)) HN.out.symm, HW7.out⟩
      · obtain ⟨r, hvt, hrl, hrs⟩ := HV.out.2.2.2.2
        have hke : k.toNat = code.length := by omega
        rw [hke] at hvt
        have HE : Aside0 (((rs.length : Int) == 0) = objB code data refs) := ⟨by
          unfold objB
          rw [hvt]
          have h1 : rs.length = refs.length - r := by rw [hrs, List.length_drop]
          by_cases hr : r = refs.length
          · have h0 : rs.length = 0 := by omega
            simp [h0, hr]
            omega
          · have h0 : rs.length ≠ 0 := by omega
            have h5 : ((rs.length : Int) == 0) = false := beq_eq_false_iff_ne.2 (by omega)
            have h6 : ((some r : Option Nat) == some refs.length) = false := beq_eq_false_iff_ne.2 (fun h => hr (Option.some.inj h))
            rw [h5, h6, Bool.and_false]⟩
        clear hvt hrl hrs hke
        go_wp2_with fail
        go_ret
        exact ⟨congrArg (fun b => Ending.returned (Value.bool b)) HE.out, HV.out.1⟩
  · have HN : Aside0 (objB code data refs = false) := ⟨by
      unfold objB
      rw [Bool.eq_false_iff]
      intro h
      simp only [Bool.and_eq_true, decide_eq_true_eq] at h
      omega⟩
    by_cases d1 : (code.length : Int) < 1
    · go_enter Try.func14, Try.ntmps14
      go_wp2_with fail
      go_ret
      exact ⟨congrArg (fun b => Ending.returned (Value.bool b)) HN.out.symm, HB1.out⟩
    · by_cases d2 : (code.length : Int) > 4096
      · go_enter Try.func14, Try.ntmps14
        go_wp2_with fail
        go_ret
        exact ⟨congrArg (fun b => Ending.returned (Value.bool b)) HN.out.symm, HB1.out⟩
      · by_cases d3 : data < 0
        · go_enter Try.func14, Try.ntmps14
          go_wp2_with fail
          go_ret
          exact ⟨congrArg (fun b => Ending.returned (Value.bool b)) HN.out.symm, HB1.out⟩
        · have d4 : data > 512 := by omega
          go_enter Try.func14, Try.ntmps14
          go_wp2_with fail
          go_ret
          exact ⟨congrArg (fun b => Ending.returned (Value.bool b)) HN.out.symm, HB1.out⟩
end Go.Proofs.Ytadaopfcgpfiiaa
namespace Go.Proofs.Ytadaopfcgpfiiaa
open Go.RowKit Go.Proofs.YtadaopfcgpfiiaaW.PrintWords Go.Proofs.YtadaopfcgpfiiaaW.PrintLast Go.Proofs.YtadaopfcgpfiiaaW.PrintMore PCg
set_option linter.unusedVariables false
set_option linter.unusedSimpArgs false
theorem and14 (n : Int) : Go.bits .and .i32 n 16383 = n % 16384 := by
  have h : ((BitVec.ofInt 32 n &&& BitVec.ofInt 32 16383).toNat : Int) = n % 16384 := by
    rw [BitVec.toNat_and, BitVec.toNat_ofInt, BitVec.toNat_ofInt, show ((16383 : Int) % ((2 ^ 32 : Nat) : Int)).toNat = 2 ^ 14 - 1 from by decide, Nat.and_two_pow_sub_one_eq_mod]
    omega
  show IntKind.wrap .i32 ((BitVec.ofInt 32 n &&& BitVec.ofInt 32 16383).toNat : Int) = _
  rw [h, IntKind.wrap_i32]
  omega
/-- where the references are, and their kinds -/
def rk (p : Int) : List S53 → List (Int × Bool)
  | [] => []
  | x :: l => match refKind x.f0 with
    | none => rk (p + 1) l
    | some b => (p, b) :: rk (p + 1) l
theorem rk_append (a b : List S53) : ∀ p : Int, rk p (a ++ b) = rk p a ++ rk (p + a.length) b := by
  induction a with
  | nil => intro p; simp [rk]
  | cons x a ih =>
    intro p
    simp only [List.cons_append, rk, List.length_cons]
    rw [ih, show p + 1 + (a.length : Int) = p + ((a.length + 1 : Nat) : Int) by omega]
    cases refKind x.f0 <;> rfl
theorem rd_Instr_get (l : List S53) (k : Nat) (h : k < l.length) : rd_T53 l (k : Int) = l[k] := by
  simp only [rd_T53, List.getD_eq_getElem?_getD, Int.toNat_natCast, List.getElem?_eq_getElem h, Option.getD_some]
theorem vTo_ok {code : List S53} {refs : List S105} (hR : refs.map (fun r => (r.f0, r.f2)) = rk 0 code)
    (hI : ∀ k : Nat, k < code.length → instrB (rd_T53 code k) = true ∧ brOk (rd_T53 code k) k code.length = true) : ∀ k : Nat, k ≤ code.length → vTo code refs k = some (rk 0 (code.take k)).length := by
  intro k
  induction k with
  | zero => intro _; rfl
  | succ k ih =>
    intro hk
    obtain ⟨h1, h2⟩ := hI k (by omega)
    have hx := rd_Instr_get code k (by omega)
    have ht : code.take (k + 1) = code.take k ++ [code[k]] := by rw [List.take_add_one, List.getElem?_eq_getElem (by omega)]; rfl
    have hl : (code.take k).length = k := by simp; omega
    rw [vTo, ih (by omega), Option.bind_some, vStep, h1, h2]
    simp only [Bool.and_self, if_true]
    rw [ht, rk_append, hl, hx]
    simp only [rk]
    rw [hx] at h1 h2
    cases hr : refKind code[k].f0 with
    | none => simp
    | some b =>
      have hd : rk 0 code = rk 0 (code.take k) ++ ((k : Int), b) :: rk (k + 1) (code.drop (k + 1)) := by
        have e : code = code.take k ++ (code[k] :: code.drop (k + 1)) := by
          rw [List.getElem_cons_drop]; exact (List.take_append_drop k code).symm
        conv => lhs; rw [e]
        rw [rk_append, hl]
        simp only [rk, hr, Int.zero_add]
      have hg : (refs.map (fun r => (r.f0, r.f2)))[(rk 0 (code.take k)).length]? = some ((k : Int), b) := by
        rw [hR, hd, List.getElem?_append_right (Nat.le_refl _), Nat.sub_self]
        rfl
      rw [List.getElem?_map] at hg
      obtain ⟨r, hr1, hr2⟩ := Option.map_eq_some_iff.1 hg
      obtain ⟨hlt, hge⟩ := List.getElem?_eq_some_iff.1 hr1
      have hrd : rd_T105 refs ((rk 0 (code.take k)).length : Int) = r := by
        simp only [rd_T105, List.getD_eq_getElem?_getD, Int.toNat_natCast, hr1, Option.getD_some]
      injection hr2 with q1 q2
      simp only [hrd]
      rw [if_pos ⟨hlt, q1, q2⟩]
      simp
theorem objB_ok {code : List S53} {data : Int} {refs : List S105} (h1 : 1 ≤ code.length) (h2 : code.length ≤ 4096) (h3 : 0 ≤ data) (h4 : data ≤ 512) (hR : refs.map (fun r => (r.f0, r.f2)) = rk 0 code)
    (hI : ∀ k : Nat, k < code.length → instrB (rd_T53 code k) = true ∧ brOk (rd_T53 code k) k code.length = true) : objB code data refs = true := by
  have h := vTo_ok hR hI code.length (Nat.le_refl _)
  have hl : refs.length = (rk 0 code).length := by rw [← hR]; simp
  rw [List.take_length] at h
  simp [objB, h1, h2, h3, h4, h, hl]
/-- an instruction of a generator: valid, and no branch -/
def okI (x : S53) : Prop := instrB x = true ∧ ¬(22 ≤ x.f0 ∧ x.f0 ≤ 24)
/-- code and references are added together -/
def GStep (st st' : GSt) : Prop := ∃ l rl, st'.code = st.code ++ l ∧ st'.refs = st.refs ++ rl ∧ st'.starts = st.starts ∧ st'.patches = st.patches ∧ (∀ x ∈ l, okI x) ∧ rl.map (fun r => (r.f0, r.f2)) = rk st.code.length l
theorem GStep.refl (st : GSt) : GStep st st := ⟨[], [], by simp, by simp, rfl, rfl, by simp, rfl⟩
theorem GStep.trans {a b c : GSt} (h : GStep a b) (k : GStep b c) : GStep a c := by
  obtain ⟨l, rl, h1, h2, h3, h4, h5, h6⟩ := h
  obtain ⟨l', rl', k1, k2, k3, k4, k5, k6⟩ := k
  refine ⟨l ++ l', rl ++ rl', by rw [k1, h1, List.append_assoc], by rw [k2, h2, List.append_assoc], k3.trans h3, k4.trans h4, fun x hx => ?_, ?_⟩
  · rcases List.mem_append.1 hx with h | h
    · exact h5 x h
    · exact k5 x h
  · rw [List.map_append, h6, k6, rk_append, h1, List.length_append]
    rw [show ((a.code.length + l.length : Nat) : Int) = (a.code.length : Int) + l.length by omega]
theorem rk_none {l : List S53} (h : ∀ x ∈ l, refKind x.f0 = none) : ∀ p, rk p l = [] := by
  induction l with
  | nil => intro p; rfl
  | cons x l ih => intro p; simp only [rk, h x (List.mem_cons_self ..)]; exact ih (fun y hy => h y (List.mem_cons_of_mem _ hy)) _
theorem gs_emit {st : GSt} {l : List S53} (h : ∀ x ∈ l, okI x ∧ refKind x.f0 = none) : GStep st (st.emit l) := by
  refine ⟨l, [], rfl, by simp [GSt.emit], rfl, rfl, fun x hx => (h x hx).1, ?_⟩
  rw [rk_none (fun x hx => (h x hx).2)]
  rfl
theorem gs_refer {st : GSt} {x : S53} {nm : ByteArray} (h : okI x) (hk : refKind x.f0 = some (isLock x.f0)) : GStep st (st.refer x nm) := by
  refine ⟨[x], [⟨st.code.length, nm, isLock x.f0⟩], rfl, rfl, rfl, rfl, fun y hy => ?_, ?_⟩
  · rw [List.mem_singleton.1 hy]; exact h
  · simp [rk, hk]
/-- the places are good -/
def PlOk (regs : Int) (pl : List (Int × Int)) : Prop := ∀ v, 0 ≤ v → v < regs → (((rdTwo pl v).2 = -1 ∧ 2 ≤ (rdTwo pl v).1 ∧ (rdTwo pl v).1 ≤ 9) ∨ ((rdTwo pl v).1 = 0 ∧ 0 ≤ (rdTwo pl v).2 ∧ (rdTwo pl v).2 ≤ 10000))
theorem useReg_in {regs : Int} {pl : List (Int × Int)} (h : PlOk regs pl) {v : Int} (h0 : 0 ≤ v) (h1 : v < regs) {into : Int} (hi : 0 ≤ into ∧ into < 16) : 0 ≤ useReg (rdTwo pl v) into ∧ useReg (rdTwo pl v) into < 16 := by
  have := h v h0 h1
  unfold useReg
  split <;> omega
theorem useCode_ok {regs : Int} {pl : List (Int × Int)} (h : PlOk regs pl) {sp : Int} (s0 : 0 ≤ sp) (s1 : sp ≤ 1000) {v : Int} (h0 : 0 ≤ v) (h1 : v < regs) {into : Int} (hi : 0 ≤ into ∧ into < 16) :
    ∀ x ∈ useCode sp (rdTwo pl v) into, okI x ∧ refKind x.f0 = none := by
  have := h v h0 h1
  unfold useCode
  split
  · intro x hx; cases hx
  · intro x hx
    rw [List.mem_singleton.1 hx]
    refine ⟨⟨?_, by simp⟩, by simp [refKind]⟩
    simp [instrB, fmtOf, regB]
    omega
theorem storeCode_ok {regs : Int} {pl : List (Int × Int)} (h : PlOk regs pl) {sp : Int} (s0 : 0 ≤ sp) (s1 : sp ≤ 1000) {v : Int} (h0 : 0 ≤ v) (h1 : v < regs) :
    ∀ x ∈ storeCode sp (rdTwo pl v), okI x ∧ refKind x.f0 = none := by
  have := h v h0 h1
  unfold storeCode
  split
  · intro x hx; cases hx
  · intro x hx
    rw [List.mem_singleton.1 hx]
    refine ⟨⟨?_, by simp⟩, by simp [refKind]⟩
    simp [instrB, fmtOf, regB]
    omega
theorem constCode_ok {d n : Int} (hd : 0 ≤ d ∧ d < 16) (hn : -2147483648 ≤ n ∧ n ≤ 2147483647) : ∀ x ∈ constCode d n, okI x ∧ refKind x.f0 = none := by
  unfold constCode
  split
  · intro x hx; cases hx
  split
  · intro x hx; cases hx
  split
  · intro x hx
    rw [List.mem_singleton.1 hx, w64 (by omega)]
    refine ⟨⟨?_, by simp⟩, by simp [refKind]⟩
    simp [instrB, fmtOf, regB]
    omega
  · rw [and14, w64 (n := n / 16384) (by omega), w64 (n := n % 16384) (by omega)]
    intro x hx
    simp only [List.mem_cons, List.not_mem_nil, or_false] at hx
    rcases hx with rfl | rfl | rfl
    all_goals
      refine ⟨⟨?_, by simp⟩, by simp [refKind]⟩
      simp [instrB, fmtOf, regB]
      omega
theorem ok3 {o d x y : Int} (ho : 2 ≤ o ∧ o ≤ 13) (hd : 0 ≤ d ∧ d < 16) (hx : 0 ≤ x ∧ x < 16) (hy : 0 ≤ y ∧ y < 16) : okI ⟨o, d, x, y, 0⟩ ∧ refKind o = none := by
  refine ⟨⟨?_, by dsimp only; omega⟩, by unfold refKind; rw [if_neg (by omega), if_neg (by omega)]⟩
  simp [instrB, fmtOf, regB, ho]
  omega
theorem binCode_ok {op d x y : Int} (ho : 6 ≤ op ∧ op ≤ 23) (hd : 0 ≤ d ∧ d < 16) (hx : 0 ≤ x ∧ x < 16) (hy : 0 ≤ y ∧ y < 16) : ∀ z ∈ binCode op d x y, okI z ∧ refKind z.f0 = none := by
  unfold binCode
  repeat' split
  all_goals
    intro z hz
    simp only [List.mem_cons, List.not_mem_nil, or_false] at hz
  all_goals first
    | (rcases hz with rfl | rfl | rfl | rfl <;> exact ok3 (by omega) (by omega) (by omega) (by omega))
    | (rcases hz with rfl | rfl | rfl <;> exact ok3 (by omega) (by omega) (by omega) (by omega))
    | (rcases hz with rfl | rfl <;> exact ok3 (by omega) (by omega) (by omega) (by omega))
    | (subst hz; exact ok3 (by omega) (by omega) (by omega) (by omega))
theorem all_append {P : S53 → Prop} {a b : List S53} (ha : ∀ x ∈ a, P x) (hb : ∀ x ∈ b, P x) : ∀ x ∈ a ++ b, P x := fun x hx => (List.mem_append.1 hx).elim (ha x) (hb x)
theorem all_one {P : S53 → Prop} {a : S53} (h : P a) : ∀ x ∈ [a], P x := fun x hx => by rw [List.mem_singleton.1 hx]; exact h
/-- what insOk says of each opcode -/
theorem insOk_cases {regs : Int} {arrs shared : List S44} {i : S51} (h : insOk regs arrs shared i = true) :
    (i.f0 = 1 ∧ (0 ≤ i.f1 ∧ i.f1 < regs) ∧ -2147483648 ≤ i.f4 ∧ i.f4 ≤ 2147483647) ∨ (i.f0 = 2 ∧ (0 ≤ i.f1 ∧ i.f1 < regs) ∧ 0 ≤ i.f2 ∧ i.f2 < regs) ∨
    (i.f0 = 3 ∧ (0 ≤ i.f1 ∧ i.f1 < regs) ∧ (0 ≤ i.f2 ∧ i.f2 < regs) ∧ (0 ≤ i.f3 ∧ i.f3 < regs) ∧ 6 ≤ i.f4 ∧ i.f4 ≤ 23) ∨ (i.f0 = 4 ∧ (0 ≤ i.f1 ∧ i.f1 < regs) ∧ 0 ≤ i.f2 ∧ i.f2 < regs) ∨
    (i.f0 = 5 ∧ (0 ≤ i.f2 ∧ i.f2 < regs) ∧ 0 ≤ i.f3 ∧ i.f3 < regs) ∨ (i.f0 = 6 ∧ (0 ≤ i.f1 ∧ i.f1 < regs) ∧ 0 ≤ i.f2 ∧ i.f2 < regs) ∨ (i.f0 = 7 ∧ (0 ≤ i.f2 ∧ i.f2 < regs) ∧ 0 ≤ i.f3 ∧ i.f3 < regs) ∨
    (i.f0 = 8 ∧ (0 ≤ i.f2 ∧ i.f2 < regs) ∧ 1 ≤ i.f4 ∧ i.f4 ≤ 131071) ∨ (i.f0 = 9 ∧ (0 ≤ i.f1 ∧ i.f1 < regs) ∧ 0 ≤ i.f4 ∧ i.f4 ≤ 7) ∨ (i.f0 = 10 ∧ (0 ≤ i.f2 ∧ i.f2 < regs) ∧ 0 ≤ i.f4 ∧ i.f4 ≤ 7) ∨ i.f0 = 11 ∨ i.f0 = 12 ∨
    (i.f0 = 13 ∧ 0 ≤ i.f4 ∧ i.f4 ≤ 3) ∨ (i.f0 = 14 ∧ 0 ≤ i.f4 ∧ i.f4 ≤ 3) ∨ (i.f0 = 15 ∧ (0 ≤ i.f1 ∧ i.f1 < regs) ∧ 0 ≤ i.f4 ∧ i.f4 ≤ 3) ∨ (i.f0 = 16 ∧ (0 ≤ i.f2 ∧ i.f2 < 4) ∧ 1 ≤ i.f4 ∧ i.f4 ≤ 131071) := by
  unfold insOk xOk at h
  by_cases h16 : i.f0 = 1 ∨ i.f0 = 2 ∨ i.f0 = 3 ∨ i.f0 = 4 ∨ i.f0 = 5 ∨ i.f0 = 6 ∨ i.f0 = 7 ∨ i.f0 = 8 ∨ i.f0 = 9 ∨ i.f0 = 10 ∨ i.f0 = 11 ∨ i.f0 = 12 ∨ i.f0 = 13 ∨ i.f0 = 14 ∨ i.f0 = 15 ∨ i.f0 = 16
  · rcases h16 with e | e | e | e | e | e | e | e | e | e | e | e | e | e | e | e <;> rw [e] at h <;> simp [shp, regOk] at h <;> simp [e] <;> omega
  · simp only [not_or] at h16
    simp [shp, h16] at h
theorem genIns_ok {regs : Int} {arrs shared : List S44} {i : S51} (h : insOk regs arrs shared i = true) {pl : List (Int × Int)} (hp : PlOk regs pl) {sp : Int} (s0 : 0 ≤ sp) (s1 : sp ≤ 1000)
    {m : ByteArray → Int} (hm : ∀ s, 0 ≤ m s ∧ m s ≤ 1000) (st : GSt) : GStep st (genIns sp pl m st i) := by
  have u1 : ∀ {v : Int}, (0 ≤ v ∧ v < regs) → ∀ x ∈ useCode sp (rdTwo pl v) 14, okI x ∧ refKind x.f0 = none := fun hv => useCode_ok hp s0 s1 hv.1 hv.2 (by omega)
  have u2 : ∀ {v : Int}, (0 ≤ v ∧ v < regs) → ∀ x ∈ useCode sp (rdTwo pl v) 15, okI x ∧ refKind x.f0 = none := fun hv => useCode_ok hp s0 s1 hv.1 hv.2 (by omega)
  have r1 : ∀ {v : Int}, (0 ≤ v ∧ v < regs) → 0 ≤ useReg (rdTwo pl v) 14 ∧ useReg (rdTwo pl v) 14 < 16 := fun hv => useReg_in hp hv.1 hv.2 (by omega)
  have r2 : ∀ {v : Int}, (0 ≤ v ∧ v < regs) → 0 ≤ useReg (rdTwo pl v) 15 ∧ useReg (rdTwo pl v) 15 < 16 := fun hv => useReg_in hp hv.1 hv.2 (by omega)
  have t1 : ∀ {v : Int} (st : GSt), (0 ≤ v ∧ v < regs) → GStep st (st.emit (storeCode sp (rdTwo pl v))) := fun st hv => gs_emit (storeCode_ok hp s0 s1 hv.1 hv.2)
  rcases insOk_cases h with ⟨e, h1, h4⟩ | ⟨e, h1, h2⟩ | ⟨e, h1, h2, h3, h4⟩ | ⟨e, h1, h2⟩ | ⟨e, h2, h3⟩ | ⟨e, h1, h2⟩ | ⟨e, h2, h3⟩ | ⟨e, h2, h4⟩ | ⟨e, h1, h4⟩ | ⟨e, h2, h4⟩ | e | e | ⟨e, h4⟩ | ⟨e, h4⟩ | ⟨e, h1, h4⟩ | ⟨e, h2, h4⟩
  all_goals simp only [genIns, genDef, genDef1, e, if_true, reduceIte, Int.reduceEq, if_false]
  · refine GStep.trans (gs_emit ?_) (t1 _ h1)
    rw [IntWalk.wrap32_in _ h4]
    exact constCode_ok (r1 h1) h4
  · refine GStep.trans (gs_emit (all_append (u1 h2) (all_one ?_))) (t1 _ h1)
    have := r1 h1; have := r1 h2
    refine ⟨⟨?_, by simp⟩, by simp [refKind]⟩
    simp [instrB, fmtOf, regB]; omega
  · exact GStep.trans (gs_emit (all_append (all_append (u1 h2) (u2 h3)) (binCode_ok h4 (r1 h1) (r1 h2) (r2 h3)))) (t1 _ h1)
  · refine GStep.trans (gs_emit (all_append (u1 h2) (all_one ?_))) (t1 _ h1)
    have := r1 h1; have := r1 h2; have := hm i.f5
    refine ⟨⟨?_, by simp⟩, by simp [refKind]⟩
    simp [instrB, fmtOf, regB]; omega
  · refine gs_emit (all_append (all_append (u1 h2) (u2 h3)) (all_one ?_))
    have := r1 h2; have := r2 h3; have := hm i.f5
    refine ⟨⟨?_, by simp⟩, by simp [refKind]⟩
    simp [instrB, fmtOf, regB]; omega
  · refine GStep.trans (GStep.trans (gs_emit (u1 h2)) (gs_refer ⟨?_, by simp⟩ rfl)) (t1 _ h1)
    have := r1 h1; have := r1 h2
    simp [instrB, fmtOf, regB]; omega
  · refine GStep.trans (gs_emit (all_append (u1 h2) (u2 h3))) (gs_refer ⟨?_, by simp⟩ rfl)
    have := r1 h2; have := r2 h3
    simp [instrB, fmtOf, regB]; omega
  · refine gs_emit (all_append (u1 h2) (all_one ?_))
    have := r1 h2
    refine ⟨⟨?_, by simp⟩, by simp [refKind]⟩
    simp [instrB, fmtOf, regB]; omega
  · refine GStep.trans (gs_emit (all_one ?_)) (t1 _ h1)
    have := r1 h1
    refine ⟨⟨?_, by simp⟩, by simp [refKind]⟩
    simp [instrB, fmtOf, regB]; omega
  · refine gs_emit (all_append (u1 h2) (all_one ?_))
    have := r1 h2
    refine ⟨⟨?_, by simp⟩, by simp [refKind]⟩
    simp [instrB, fmtOf, regB]; omega
  · exact gs_refer ⟨rfl, by simp⟩ rfl
  · exact gs_refer ⟨rfl, by simp⟩ rfl
  · refine gs_emit (all_one ?_)
    refine ⟨⟨?_, by simp⟩, by simp [refKind]⟩
    simp [instrB, fmtOf, regB]; omega
  · refine gs_emit (all_one ?_)
    refine ⟨⟨?_, by simp⟩, by simp [refKind]⟩
    simp [instrB, fmtOf, regB]; omega
  · refine GStep.trans (gs_emit (all_one ?_)) (t1 _ h1)
    have := r1 h1
    refine ⟨⟨?_, by simp⟩, by simp [refKind]⟩
    simp [instrB, fmtOf, regB]; omega
  · refine gs_emit (all_one ?_)
    refine ⟨⟨?_, by simp⟩, by simp [refKind]⟩
    simp [instrB, fmtOf, regB]; omega
theorem genCode_ok {regs : Int} {arrs shared : List S44} {pl : List (Int × Int)} (hp : PlOk regs pl) {sp : Int} (s0 : 0 ≤ sp) (s1 : sp ≤ 1000)
    {m : ByteArray → Int} (hm : ∀ s, 0 ≤ m s ∧ m s ≤ 1000) (l : List S51) (h : ∀ i ∈ l, insOk regs arrs shared i = true) : ∀ st : GSt, GStep st (genCode sp pl m st l) := by
  induction l with
  | nil => intro st; exact GStep.refl _
  | cons i l ih => intro st; exact (genIns_ok (h i (List.mem_cons_self ..)) hp s0 s1 hm st).trans (ih (fun j hj => h j (List.mem_cons_of_mem _ hj)) _)
/-- the state so far: the references fit, the instructions are valid, every branch is a patch, the patches are branches to blocks -/
structure GOk (nb : Int) (st : GSt) : Prop where
  refs : st.refs.map (fun r => (r.f0, r.f2)) = rk 0 st.code
  ins : ∀ x ∈ st.code, instrB x = true
  brs : ∀ k : Nat, k < st.code.length → 22 ≤ (rd_T53 st.code k).f0 ∧ (rd_T53 st.code k).f0 ≤ 24 → ∃ p ∈ st.patches, p.1 = k
  pat : ∀ p ∈ st.patches, 0 ≤ p.1 ∧ p.1 < st.code.length ∧ ((rd_T53 st.code p.1).f0 = 23 ∨ (rd_T53 st.code p.1).f0 = 24) ∧ 0 ≤ p.2 ∧ p.2 < nb
theorem rdi_left (a b : List S53) (k : Int) (h0 : 0 ≤ k) (h : k < a.length) : rd_T53 (a ++ b) k = rd_T53 a k := by
  simp only [rd_T53, List.getD_eq_getElem?_getD, List.getElem?_append_left (show k.toNat < a.length by omega)]
theorem rdi_right (a b : List S53) (k : Nat) (h : k < b.length) : rd_T53 (a ++ b) ((a.length + k : Nat) : Int) = b[k] := by
  rw [rd_Instr_get _ _ (by simp; omega), List.getElem_append_right (by omega)]
  simp
theorem GOk.step {nb : Int} {st st' : GSt} (h : GOk nb st) (s : GStep st st') : GOk nb st' := by
  obtain ⟨l, rl, h1, h2, h3, h4, h5, h6⟩ := s
  refine ⟨?_, fun x hx => ?_, fun k hk hb => ?_, fun p hp => ?_⟩
  · rw [h2, List.map_append, h.refs, h6, h1, rk_append, Int.zero_add]
  · rw [h1] at hx
    exact (List.mem_append.1 hx).elim (h.ins x) (fun hx => (h5 x hx).1)
  · rw [h1] at hk hb
    rw [h4]
    by_cases hlt : k < st.code.length
    · rw [rdi_left _ _ _ (by omega) (by omega)] at hb
      exact h.brs k hlt hb
    · exfalso
      obtain ⟨d, rfl⟩ : ∃ d, k = st.code.length + d := ⟨k - st.code.length, by omega⟩
      rw [List.length_append] at hk
      rw [rdi_right _ _ _ (by omega)] at hb
      exact (h5 _ (List.getElem_mem (by omega))).2 hb
  · rw [h4] at hp
    obtain ⟨a, b, c, d⟩ := h.pat p hp
    rw [h1, rdi_left _ _ _ a b]
    exact ⟨a, by rw [List.length_append]; omega, c, d⟩
theorem GOk.leap {nb : Int} {st : GSt} (h : GOk nb st) {x : S53} {b : Int} (hx : instrB x = true) (ho : x.f0 = 23 ∨ x.f0 = 24) (h0 : 0 ≤ b) (h1 : b < nb) : GOk nb (st.leap x b) := by
  have hend : rd_T53 (st.code ++ [x]) (st.code.length : Int) = x := by
    have := rdi_right st.code [x] 0 (by simp)
    simpa using this
  refine ⟨?_, fun y hy => ?_, fun k hk hb => ?_, fun p hp => ?_⟩
  · have hn : refKind x.f0 = none := by rcases ho with e | e <;> rw [e] <;> rfl
    simp only [GSt.leap]
    rw [rk_append, h.refs]
    simp [rk, hn]
  · exact (List.mem_append.1 hy).elim (h.ins y) (fun hy => by rw [List.mem_singleton.1 hy]; exact hx)
  · simp only [GSt.leap, List.length_append, List.length_cons, List.length_nil] at hk hb ⊢
    by_cases hlt : k < st.code.length
    · rw [rdi_left _ _ _ (by omega) (by omega)] at hb
      obtain ⟨p, hp, e⟩ := h.brs k hlt hb
      exact ⟨p, List.mem_append_left _ hp, e⟩
    · obtain rfl : k = st.code.length := by omega
      exact ⟨_, List.mem_append_right _ (List.mem_singleton_self _), rfl⟩
  · simp only [GSt.leap, List.mem_append, List.mem_singleton] at hp ⊢
    rcases hp with hp | rfl
    · obtain ⟨a, b', c, d⟩ := h.pat p hp
      rw [rdi_left _ _ _ a b']
      exact ⟨a, by rw [List.length_append]; omega, c, d⟩
    · dsimp only
      rw [hend]
      exact ⟨by omega, by simp; omega, ho, h0, h1⟩
theorem GOk.start {nb : Int} {st : GSt} (h : GOk nb st) : GOk nb st.start := ⟨h.refs, h.ins, h.brs, h.pat⟩
theorem genBlk_ok {nb regs : Int} {arrs shared : List S44} {pl : List (Int × Int)} (hp : PlOk regs pl) {sp : Int} (s0 : 0 ≤ sp) (s1 : sp ≤ 1000)
    {m : ByteArray → Int} (hm : ∀ s, 0 ≤ m s ∧ m s ≤ 1000) {st : GSt} (h : GOk nb st) (k : Int) (b : S49) (hb : blkOk regs nb arrs shared b = true) : GOk nb (genBlk sp pl m st k b) := by
  simp only [blkOk, Bool.and_eq_true, List.all_eq_true] at hb
  obtain ⟨he, hi⟩ := hb
  have h2 := h.start.step (genCode_ok hp s0 s1 hm b.f0 hi st.start)
  unfold genBlk
  simp only
  generalize genCode sp pl m st.start b.f0 = st2 at *
  unfold endOk tgtOk at he
  split
  · exact h2.step (gs_emit (all_one ⟨⟨rfl, by simp⟩, rfl⟩))
  · split
    · rename_i g3 g2
      rw [if_neg (by omega), if_pos g2] at he
      simp at he
      have hx : 0 ≤ b.f2 ∧ b.f2 < regs := by omega
      have h3 := (h2.step (gs_emit (useCode_ok hp s0 s1 hx.1 hx.2 (into := 14) (by omega)))).leap (x := ⟨23, useReg (rdTwo pl b.f2) 14, 0, 0, 0⟩) (b := b.f3) (by
        have := useReg_in hp hx.1 hx.2 (into := 14) (by omega)
        simp [instrB, fmtOf, regB]; omega) (.inl rfl) (by omega) (by omega)
      split
      · exact h3
      · exact h3.leap rfl (.inr rfl) (by omega) (by omega)
    · rename_i g3 g2
      split
      · exact h2
      · have g1 : b.f1 = 1 := by
          by_cases g1 : b.f1 = 1
          · exact g1
          · rw [if_neg g1, if_neg g2] at he
            simp at he
            exact absurd he.1.1.1 g3
        rw [if_pos g1] at he
        simp at he
        exact h2.leap rfl (.inr rfl) (by omega) (by omega)
end Go.Proofs.Ytadaopfcgpfiiaa
namespace Go.Proofs.Ytadaopfcgpfiiaa
open Go.RowKit Go.Proofs.YtadaopfcgpfiiaaW.PrintWords Go.Proofs.YtadaopfcgpfiiaaW.PrintLast Go.Proofs.YtadaopfcgpfiiaaW.PrintMore PCg
set_option linter.unusedVariables false
set_option linter.unusedSimpArgs false
theorem rdi_set (c : List S53) (v : S53) (i : Int) (k : Nat) (h0 : 0 ≤ i) (h1 : i < c.length) : rd_T53 (c.set i.toNat v) (k : Int) = if i = k then v else rd_T53 c k := by
  simp only [rd_T53, List.getD_eq_getElem?_getD, Int.toNat_natCast, List.getElem?_set]
  by_cases e : i = k
  · rw [if_pos e, if_pos (by omega), if_pos (by omega)]; rfl
  · rw [if_neg e, if_neg (by omega)]
/-- an instruction, but for its number -/
def same4 (a b : S53) : Prop := a.f0 = b.f0 ∧ a.f1 = b.f1 ∧ a.f2 = b.f2 ∧ a.f3 = b.f3
theorem fold_patch (starts : List Int) : ∀ (l : List (Int × Int)) (c : List S53), (∀ p ∈ l, 0 ≤ p.1 ∧ p.1 < c.length) →
    (l.foldl (patch1 starts) c).length = c.length ∧ ∀ k : Nat, k < c.length → same4 (rd_T53 (l.foldl (patch1 starts) c) k) (rd_T53 c k) ∧
      ((∃ p ∈ l, p.1 = k ∧ (rd_T53 (l.foldl (patch1 starts) c) k).f4 = rd starts p.2 - k - 1) ∨ ((∀ p ∈ l, p.1 ≠ k) ∧ rd_T53 (l.foldl (patch1 starts) c) k = rd_T53 c k)) := by
  intro l
  induction l with
  | nil => intro c _; exact ⟨rfl, fun k hk => ⟨⟨rfl, rfl, rfl, rfl⟩, .inr ⟨by simp, rfl⟩⟩⟩
  | cons p l ih =>
    intro c hp
    obtain ⟨p0, p1⟩ := hp p (List.mem_cons_self ..)
    have hl : (patch1 starts c p).length = c.length := by simp [patch1]
    obtain ⟨i1, i2⟩ := ih (patch1 starts c p) (fun q hq => by rw [hl]; exact hp q (List.mem_cons_of_mem _ hq))
    simp only [List.foldl_cons]
    refine ⟨i1.trans hl, fun k hk => ?_⟩
    obtain ⟨hs, hc⟩ := i2 k (by omega)
    have hr : rd_T53 (patch1 starts c p) k = if p.1 = k then ⟨(rd_T53 c p.1).f0, (rd_T53 c p.1).f1, (rd_T53 c p.1).f2, (rd_T53 c p.1).f3, rd starts p.2 - p.1 - 1⟩ else rd_T53 c k := rdi_set c _ p.1 k p0 p1
    by_cases e : p.1 = k
    · rw [if_pos e] at hr
      refine ⟨?_, ?_⟩
      · rw [hr, e] at hs
        exact hs
      · rcases hc with ⟨q, hq, e1, e2⟩ | ⟨_, e2⟩
        · exact .inl ⟨q, List.mem_cons_of_mem _ hq, e1, e2⟩
        · exact .inl ⟨p, List.mem_cons_self .., e, by rw [e2, hr, e]⟩
    · rw [if_neg e] at hr
      rw [hr] at hs
      refine ⟨hs, ?_⟩
      rcases hc with ⟨q, hq, e1, e2⟩ | ⟨e1, e2⟩
      · exact .inl ⟨q, List.mem_cons_of_mem _ hq, e1, e2⟩
      · exact .inr ⟨fun q hq => by rcases List.mem_cons.1 hq with rfl | hq; exact e; exact e1 q hq, e2.trans hr⟩
theorem rk_congr : ∀ (a b : List S53) (p : Int), a.map (fun x => x.f0) = b.map (fun x => x.f0) → rk p a = rk p b := by
  intro a
  induction a with
  | nil => intro b p h; cases b with | nil => rfl | cons _ _ => simp at h
  | cons x a ih =>
    intro b p h
    cases b with
    | nil => simp at h
    | cons y b =>
      simp only [List.map_cons, List.cons.injEq] at h
      simp only [rk, h.1, ih b (p + 1) h.2]
theorem map_f0 {a b : List S53} (hl : a.length = b.length) (h : ∀ k : Nat, k < b.length → (rd_T53 a k).f0 = (rd_T53 b k).f0) : a.map (fun x => x.f0) = b.map (fun x => x.f0) := by
  refine List.ext_getElem (by simp [hl]) (fun k h1 h2 => ?_)
  simp only [List.length_map] at h1 h2
  have := h k h2
  rw [rd_Instr_get _ _ h1, rd_Instr_get _ _ h2] at this
  simpa using this
theorem patch_f0 {nb : Int} {st : GSt} (h : GOk nb st) : (patchAll st).map (fun x => x.f0) = st.code.map (fun x => x.f0) := by
  obtain ⟨h1, h2⟩ := fold_patch st.starts st.patches st.code (fun p hp => ⟨(h.pat p hp).1, (h.pat p hp).2.1⟩)
  exact map_f0 h1 (fun k hk => (h2 k hk).1.1)
theorem patch_len {nb : Int} {st : GSt} (h : GOk nb st) : (patchAll st).length = st.code.length :=
  (fold_patch st.starts st.patches st.code (fun p hp => ⟨(h.pat p hp).1, (h.pat p hp).2.1⟩)).1
theorem instrB_br {x y : S53} (h : instrB x = true) (e : same4 y x) (ho : 22 ≤ x.f0 ∧ x.f0 ≤ 24) (h4 : -131072 ≤ y.f4 ∧ y.f4 ≤ 131071) : instrB y = true := by
  obtain ⟨e0, e1, e2, e3⟩ := e
  unfold instrB at h ⊢
  rw [e0, e1, e2, e3]
  have h3 : x.f0 = 22 ∨ x.f0 = 23 ∨ x.f0 = 24 := by omega
  rcases h3 with e | e | e <;> rw [e] at h ⊢ <;> simp [fmtOf] at h ⊢ <;> exact ⟨h.1, h4⟩
theorem objB_patch {nb : Int} {st : GSt} (h : GOk nb st) (hs : ∀ b : Int, 0 ≤ b → b < nb → 0 ≤ rd st.starts b ∧ rd st.starts b < st.code.length) (h1 : 1 ≤ st.code.length) (h2 : st.code.length ≤ 4096) {data : Int} (d0 : 0 ≤ data) (d1 : data ≤ 512) :
    objB (patchAll st) data st.refs = true := by
  have hl := patch_len h
  obtain ⟨_, hf⟩ := fold_patch st.starts st.patches st.code (fun p hp => ⟨(h.pat p hp).1, (h.pat p hp).2.1⟩)
  refine objB_ok (by omega) (by omega) d0 d1 ?_ (fun k hk => ?_)
  · rw [h.refs]
    exact rk_congr _ _ 0 (patch_f0 h).symm
  · rw [hl] at hk
    obtain ⟨hsm, hc⟩ := hf k hk
    have hx : instrB (rd_T53 st.code k) = true := by rw [rd_Instr_get _ _ hk]; exact h.ins _ (List.getElem_mem hk)
    rw [hl]
    rcases hc with ⟨p, hp, e1, e2⟩ | ⟨e1, e2⟩
    · obtain ⟨a, b, c, d, e⟩ := h.pat p hp
      obtain ⟨s0, s1⟩ := hs p.2 d e
      rw [e1] at c
      change (rd_T53 (patchAll st) k).f4 = _ at e2
      refine ⟨instrB_br hx hsm (by omega) ?_, ?_⟩
      · change -131072 ≤ (rd_T53 (patchAll st) k).f4 ∧ (rd_T53 (patchAll st) k).f4 ≤ 131071
        rw [e2]; omega
      · unfold brOk
        split
        · rw [e2]; simp; omega
        · rfl
    · change rd_T53 (patchAll st) k = _ at e2
      rw [e2]
      refine ⟨hx, ?_⟩
      unfold brOk
      rw [if_neg]
      intro hb
      obtain ⟨p, hp, e⟩ := h.brs k hk hb
      exact e1 p hp e
theorem plOk_of {regs : Int} {places : List (Int × Int)} {slots : Int} (h : AllocOk regs places slots) : PlOk regs places := by
  intro v h0 h1
  obtain ⟨hl, s0, s1, hp⟩ := h
  have hm : rdTwo places v ∈ places := by
    simp only [rdTwo, List.getD_eq_getElem?_getD, List.getElem?_eq_getElem (show v.toNat < places.length by omega), Option.getD_some]
    exact List.getElem_mem _
  have := hp _ hm
  omega
theorem rd_Blk_get (l : List S49) (k : Nat) (h : k < l.length) : rd_T49 l (k : Int) = l[k] := by
  simp only [rd_T49, List.getD_eq_getElem?_getD, Int.toNat_natCast, List.getElem?_eq_getElem h, Option.getD_some]
theorem genTo_ok {regs : Int} {arrs : List S44} {blks : List S49} {shared : List S44} (h : irOk regs arrs blks shared = true) {pl : List (Int × Int)} (hp : PlOk regs pl) {sp : Int} (s0 : 0 ≤ sp) (s1 : sp ≤ 1000)
    {m : ByteArray → Int} (hm : ∀ s, 0 ≤ m s ∧ m s ≤ 1000) {st : GSt} (hst : GOk blks.length st) (k : Nat) (hk : k ≤ blks.length) : GOk blks.length (genTo sp pl m blks st k) := by
  induction k with
  | zero => exact hst
  | succ k ih => exact genBlk_ok hp s0 s1 hm (ih (by omega)) k _ ((irOk_facts h).2.2.2.2.2.2 k (by omega))
theorem genStores_ok {sp : Int} (s0 : 0 ≤ sp) (n : Nat) (hn : sp + n ≤ 512) : ∀ x ∈ genStores sp n, okI x ∧ refKind x.f0 = none := by
  intro x hx
  obtain ⟨s, hs, rfl⟩ := List.mem_map.1 hx
  have := List.mem_range.1 hs
  refine ⟨⟨?_, by simp⟩, by simp [refKind]⟩
  simp [instrB, fmtOf, regB]
  omega
theorem genBlk_more {nb regs : Int} {arrs shared : List S44} (sp : Int) (pl : List (Int × Int)) (m : ByteArray → Int) (st : GSt) (k : Int) (b : S49) (hb : blkOk regs nb arrs shared b = true) (hk : nb ≤ k + 1) :
    st.code.length + 1 ≤ (genBlk sp pl m st k b).code.length := by
  have hx := (genCode_ext sp pl m b.f0 st.start).len
  simp only [GSt.start] at hx
  simp only [blkOk, Bool.and_eq_true] at hb
  have he := hb.1
  unfold genBlk
  simp only
  change st.code.length ≤ (genCode sp pl m st.start b.f0).code.length at hx
  generalize genCode sp pl m st.start b.f0 = st2 at *
  unfold endOk tgtOk at he
  split
  · simp [GSt.emit]; omega
  · split
    · split
      · simp [GSt.emit, GSt.leap]; omega
      · simp [GSt.emit, GSt.leap]; omega
    · rename_i g3 g2
      have g1 : b.f1 = 1 := by
        by_cases g1 : b.f1 = 1
        · exact g1
        · rw [if_neg g1, if_neg g2] at he
          simp at he
          exact absurd he.1.1.1 g3
      rw [if_pos g1] at he
      simp at he
      rw [if_neg (by omega)]
      simp [GSt.leap]; omega
/-- every block starts within the code -/
theorem starts_in {regs : Int} {arrs : List S44} {blks : List S49} {shared : List S44} (h : irOk regs arrs blks shared = true) (addr : List Int) (size : Int) (places : List (Int × Int)) (slots : Int) :
    1 ≤ (genTask arrs addr size blks places slots).code.length ∧ ∀ b : Int, 0 ≤ b → b < blks.length → 0 ≤ rd (genTask arrs addr size blks places slots).starts b ∧ rd (genTask arrs addr size blks places slots).starts b < (genTask arrs addr size blks places slots).code.length := by
  have hF := irOk_facts h
  obtain ⟨n, hn⟩ : ∃ n, blks.length = n + 1 := ⟨blks.length - 1, by omega⟩
  have h0 : PInv blks.length (⟨genStores size slots.toNat, [], [], []⟩ : GSt) := ⟨fun p hp => by simp at hp, fun x hx => by simp at hx⟩
  have h1 := genTo_inv h size places (mapTo arrs addr arrs.length) _ h0 n (by omega)
  have hb := hF.2.2.2.2.2.2 n (by omega)
  have hg := genBlk_more size places (mapTo arrs addr arrs.length) (genTo size places (mapTo arrs addr arrs.length) blks ⟨genStores size slots.toNat, [], [], []⟩ n) n _ hb (by omega)
  have hs := (genBlk_sz size places (mapTo arrs addr arrs.length) (genTo size places (mapTo arrs addr arrs.length) blks ⟨genStores size slots.toNat, [], [], []⟩ n) n (rd_T49 blks n)).2.2.1
  have hsl := (genTo_sz size places (mapTo arrs addr arrs.length) blks ⟨genStores size slots.toNat, [], [], []⟩ n).2.2.1
  have e : genTask arrs addr size blks places slots = genBlk size places (mapTo arrs addr arrs.length) (genTo size places (mapTo arrs addr arrs.length) blks ⟨genStores size slots.toNat, [], [], []⟩ n) n (rd_T49 blks n) := by
    unfold genTask
    rw [hn]
    rfl
  rw [e, hs]
  generalize genTo size places (mapTo arrs addr arrs.length) blks ⟨genStores size slots.toNat, [], [], []⟩ n = st at *
  refine ⟨by omega, fun b b0 b1 => ?_⟩
  have hm : rd (st.starts ++ [(st.code.length : Int)]) b ∈ st.starts ++ [(st.code.length : Int)] := mem_rd b0 (by simp at hsl ⊢; omega)
  rcases List.mem_append.1 hm with hm | hm
  · have := h1.2 _ hm
    omega
  · rw [List.mem_singleton.1 hm]
    omega
theorem layA_in {arrs shared : List S44} (h : ∀ k : Nat, k < arrs.length → arrOkAt arrs shared k = true) (h4 : arrs.length ≤ 4) (k : Nat) (hk : k ≤ arrs.length) : 0 ≤ layA arrs k ∧ layA arrs k ≤ 32 * k := by
  induction k with
  | zero => exact ⟨Int.le_refl _, Int.le_refl _⟩
  | succ k ih =>
    have hb := h k (by omega)
    have := ih (by omega)
    simp only [arrOkAt, Bool.and_eq_true, decide_eq_true_eq] at hb
    obtain ⟨⟨⟨b1, b2⟩, _⟩, _⟩ := hb
    unfold layA mx
    rw [if_neg (by omega), w64 (by omega)]
    omega
theorem mapTo_in (arrs : List S44) (addr : List Int) (hb : ∀ k : Nat, k < arrs.length → 0 ≤ rd addr k ∧ rd addr k ≤ 1000) (k : Nat) (hk : k ≤ arrs.length) : ∀ s, 0 ≤ mapTo arrs addr k s ∧ mapTo arrs addr k s ≤ 1000 := by
  induction k with
  | zero => intro s; exact ⟨Int.le_refl _, by simp [mapTo]⟩
  | succ k ih =>
    intro s
    simp only [mapTo]
    split
    · exact hb k (by omega)
    · exact ih (by omega) s
theorem rd_layAll (arrs : List S44) (n k : Nat) (h : k < n) : rd (layAll arrs n) k = layA arrs k := by
  simp [rd, layAll, h]
theorem size_in {regs : Int} {arrs : List S44} {blks : List S49} {shared : List S44} (h : irOk regs arrs blks shared = true) : 0 ≤ layA arrs arrs.length ∧ layA arrs arrs.length ≤ 128 := by
  have hF := irOk_facts h
  have := layA_in hF.2.2.2.2.1 hF.2.2.2.1 arrs.length (Nat.le_refl _)
  have := hF.2.2.2.1
  omega
theorem gOk_task {regs : Int} {arrs : List S44} {blks : List S49} {shared : List S44} (h : irOk regs arrs blks shared = true) {places : List (Int × Int)} {slots : Int} (hA : AllocOk regs places slots)
    (hd : layA arrs arrs.length + slots ≤ 512) : GOk blks.length (genTask arrs (layAll arrs arrs.length) (layA arrs arrs.length) blks places slots) := by
  have hF := irOk_facts h
  have hs := size_in h
  have h0 : GOk blks.length (⟨[], [], [], []⟩ : GSt) := ⟨rfl, fun x hx => by simp at hx, fun k hk => by simp at hk, fun p hp => by simp at hp⟩
  have hsl := hA.2.1
  have h1 := h0.step (gs_emit (l := genStores (layA arrs arrs.length) slots.toNat) (genStores_ok hs.1 _ (by omega)))
  refine genTo_ok h (plOk_of hA) hs.1 (by omega) (mapTo_in arrs _ (fun k hk => ?_) _ (Nat.le_refl _)) (st := ⟨genStores (layA arrs arrs.length) slots.toNat, [], [], []⟩) ?_ blks.length (Nat.le_refl _)
  · rw [rd_layAll _ _ _ hk]
    have := layA_in hF.2.2.2.2.1 hF.2.2.2.1 k (by omega)
    have := hF.2.2.2.1
    omega
  · simpa [GSt.emit] using h1
/-- the object of a valid function is valid -/
theorem objB_task {regs : Int} {arrs : List S44} {blks : List S49} {shared : List S44} (h : irOk regs arrs blks shared = true) {places : List (Int × Int)} {slots : Int} (hA : AllocOk regs places slots)
    (hd : layA arrs arrs.length + slots ≤ 512) (hc : (genTask arrs (layAll arrs arrs.length) (layA arrs arrs.length) blks places slots).code.length ≤ 4096) :
    objB (patchAll (genTask arrs (layAll arrs arrs.length) (layA arrs arrs.length) blks places slots)) (layA arrs arrs.length + slots) (genTask arrs (layAll arrs arrs.length) (layA arrs arrs.length) blks places slots).refs = true := by
  have hs := size_in h
  have hsl := hA.2.1
  obtain ⟨a, b⟩ := starts_in h (layAll arrs arrs.length) (layA arrs arrs.length) places slots
  exact objB_patch (gOk_task h hA hd) b a hc (by omega) hd
theorem sumTo_eq (blks : List S49) : sumTo blks blks.length = (blks.map (fun b => b.f0.length)).sum := by
  have h : ∀ k : Nat, k ≤ blks.length → sumTo blks k = ((blks.take k).map (fun b => b.f0.length)).sum := by
    intro k
    induction k with
    | zero => intro _; rfl
    | succ k ih =>
      intro hk
      rw [sumTo, ih (by omega), List.take_add_one, List.getElem?_eq_getElem (by omega), rd_Blk_get _ _ (by omega)]
      simp only [Option.toList_some, List.map_append, List.map_cons, List.map_nil, List.sum_append, List.sum_cons, List.sum_nil, Nat.add_zero]
  rw [h _ (Nat.le_refl _), List.take_length]
theorem code_small (arrs : List S44) (addr : List Int) (size : Int) (blks : List S49) (places : List (Int × Int)) (slots : Int) :
    (genTask arrs addr size blks places slots).code.length ≤ slots.toNat + 8 * (blks.map (fun b => b.f0.length)).sum + 3 * blks.length := by
  have := (genTo_sz size places (mapTo arrs addr arrs.length) blks ⟨genStores size slots.toNat, [], [], []⟩ blks.length).1
  rw [sumTo_eq] at this
  have hl : (genStores size slots.toNat).length = slots.toNat := by simp [genStores]
  unfold genTask
  simp only [hl] at this
  exact this
end Go.Proofs.Ytadaopfcgpfiiaa
