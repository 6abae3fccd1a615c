/- Lemmas: what the theorem of the claim's last text needs, joined by a program out of the seat's texts C5, C6, C7. -/
import Derived.Test.YtadaopfcgpfiiaaBaseX14
import Derived.Maps.Own
import Derived.Maps.OwnOps
import Derived.Maps.Views
import Derived.Deep.RegionLaw
import Derived.BigRegion
namespace Go.Proofs.Ytadaopfcgpfiiaa
open Go.RowKit Go.Proofs.YtadaopfcgpfiiaaW.PrintWords Go.Proofs.YtadaopfcgpfiiaaW.PrintLast Go.Proofs.YtadaopfcgpfiiaaW.PrintMore PCg
set_option linter.unusedVariables false
set_option linter.unusedSimpArgs false
/-- block mb of w is the map of addresses: at a name it gives m -/
def GMap (w : World) (mb : Nat) (N : Nat) (m : ByteArray → Int) : Prop :=
  ∃ D : DataW Unit, w.ownsMap Try.prog 9 (plainElem Try.prog 3) mb N D ∧ Maps.IsMap D ∧ ∀ s : ByteArray, s.size ≤ maxLen → D.atKey (.string s.data.toList) (.lit (.int .i64 0)) = .lit (.int .i64 (m s))
theorem GMap.kept {w w1 : World} {mb N : Nat} {m : ByteArray → Int} {S : Nat → Prop} (h : GMap w mb N m) (hk : Kept w w1 S) (hn : ¬ S mb) : GMap w1 mb N m := by
  obtain ⟨D, ⟨es, cl, hb, F, hs, hD⟩, hm, hl⟩ := h
  exact ⟨D, ⟨es, cl, blk_kept hb hk hn, F, hs, hD⟩, hm, hl⟩
theorem GMap.below {w w1 : World} {mb N : Nat} {m : ByteArray → Int} (h : GMap w mb N m) (hb : Below w.heap.size w w1) : GMap w1 mb N m := h.kept (Kept.of_below hb (fun _ => False)) (fun h => h)
theorem GMap.lt {w : World} {mb N : Nat} {m : ByteArray → Int} (h : GMap w mb N m) : mb < w.heap.size := by
  obtain ⟨D, h, _⟩ := h
  exact h.lt
theorem GMap.post {B g : Nat} {O : Nat → Prop} {E : GEnv} {w w1 : World} {st : GSt} {mb N : Nat} {m : ByteArray → Int} (h : GMap w mb N m) (k : GPost B g O E w st w1) (hg : mb ≠ g) (hO : ¬ O mb) : GMap w1 mb N m := by
  obtain ⟨O2, _, _, hk⟩ := k
  exact h.kept hk.1 (fun h => h.elim hg hO)
theorem zeroINT (w : World) : (zeroValue 3).run Try.prog w = .ok (.int .i64 0) w := by kernel_rfl
theorem GMap.look {w : World} {mb N : Nat} {m : ByteArray → Int} (h : GMap w mb N m) {s : ByteArray} (hs : s.size ≤ maxLen) : (Instr.lookup 87 (.map (some mb)) (.string s) false).run Try.prog w = .ok (.int .i64 (m s)) w := by
  obtain ⟨D, h, _, hl⟩ := h
  obtain ⟨c, hr, hat, _⟩ := h.lookup_int (Maps.string_keyed Try.underlying9) Try.underlying87 Try.underlying3 (zeroINT w) (WideMaps.keyOf_string_mk Try.underlying9 hs)
  rw [hl s hs] at hat
  have : m s = c := by simpa using hat
  rw [this]
  exact hr
theorem gmap_made (w : World) : GMap (w.alloc (.map #[] 0)) w.heap.size 0 (fun _ => 0) :=
  ⟨.map [], World.ownsMap_made w _ _ _, Maps.isMap_empty, fun s _ => rfl⟩
section
variable {B g : Nat} {O : Nat → Prop} {E : GEnv} {st : GSt} {w2 W w : World}
theorem GPost.base (h : GPost B g O E w2 st W) : B ≤ W.heap.size := by
  obtain ⟨O2, ⟨_, _, _, _, _, _, hw, _⟩, _⟩ := h
  exact hw
/-- the methods, behind others -/
theorem emit_post (h : GPost B g O E w2 st W) (hk : Below W.heap.size W w) (A : Option Addr) (c : Nat) (l : List S53) (hr : Kd.C k53 w A l.length l) (hcp : l.length ≤ c) (hsz : st.code.length + l.length ≤ 1000000) :
    Calls Try.prog 29 #[.pointer (some ⟨g, 0, none⟩), .slice A l.length c] w fun e w' => e = .returned (.tuple #[]) ∧ GPost B g O E w2 (st.emit l) w' := by
  have hB := h.base
  obtain ⟨O1, hG, hO, hk1⟩ := h
  exact (emit_any B g O1 E st A c l w (hG.below hk) hr hcp hsz).mono (fun e w' ⟨r, q⟩ => ⟨r, GPost.trans hk1 hO (GPost.pre hB hk q)⟩)
theorem emit1_post (h : GPost B g O E w2 st W) (hk : Below W.heap.size W w) (b t : Nat) (op a bb cc imm : Int) (hb : w.heap[b]? = some (.cells #[.int .u8 op, .int .i64 a, .int .i64 bb, .int .i64 cc, .int .i64 imm] t (0, 0))) (hsz : st.code.length + 1 ≤ 1000000) :
    Calls Try.prog 29 #[.pointer (some ⟨g, 0, none⟩), .slice (some ⟨b, 0, none⟩) 1 1] w fun e w' => e = .returned (.tuple #[]) ∧ GPost B g O E w2 (st.emit [⟨op, a, bb, cc, imm⟩]) w' :=
  emit_post h hk _ 1 [⟨op, a, bb, cc, imm⟩] (one_instr hb) (Nat.le_refl _) hsz
theorem shared_post (h : GPost B g O E w2 st W) (hk : Below W.heap.size W w) (op a b c d : Int) (nm : ByteArray) (hsz : st.code.length + 1 ≤ 1000000) (hrz : st.refs.length + 1 ≤ 1000000) :
    Calls Try.prog 76 #[.pointer (some ⟨g, 0, none⟩), .agg #[.int .u8 op, .int .i64 a, .int .i64 b, .int .i64 c, .int .i64 d], .string nm] w
      fun e w' => e = .returned (.tuple #[]) ∧ GPost B g O E w2 { st with code := st.code ++ [⟨op, a, b, c, d⟩], refs := st.refs ++ [⟨st.code.length, nm, isLock op⟩] } w' := by
  have hB := h.base
  obtain ⟨O1, hG, hO, hk1⟩ := h
  exact (shared_any B g O1 E st ⟨op, a, b, c, d⟩ nm w (hG.below hk) hsz hrz).mono (fun e w' ⟨r, q⟩ => ⟨r, GPost.trans hk1 hO (GPost.pre hB hk q)⟩)
theorem jump_post (h : GPost B g O E w2 st W) (hk : Below W.heap.size W w) (op a b c d : Int) (blk : Int) (hsz : st.code.length + 1 ≤ 1000000) (hrz : st.patches.length + 1 ≤ 1000000) :
    Calls Try.prog 50 #[.pointer (some ⟨g, 0, none⟩), .agg #[.int .u8 op, .int .i64 a, .int .i64 b, .int .i64 c, .int .i64 d], .int .i64 blk] w
      fun e w' => e = .returned (.tuple #[]) ∧ GPost B g O E w2 { st with code := st.code ++ [⟨op, a, b, c, d⟩], patches := st.patches ++ [((st.code.length : Int), blk)] } w' := by
  have hB := h.base
  obtain ⟨O1, hG, hO, hk1⟩ := h
  exact (jump_any B g O1 E st ⟨op, a, b, c, d⟩ blk w (hG.below hk) hsz hrz).mono (fun e w' ⟨r, q⟩ => ⟨r, GPost.trans hk1 hO (GPost.pre hB hk q)⟩)
theorem binary_post (h : GPost B g O E w2 st W) (hk : Below W.heap.size W w) (op d x y : Int) (o0 : 6 ≤ op) (o1 : op ≤ 23) (hsz : st.code.length + 4 ≤ 1000000) :
    Calls Try.prog 98 #[.pointer (some ⟨g, 0, none⟩), .int .u8 op, .int .i64 d, .int .i64 x, .int .i64 y] w
      fun e w' => e = .returned (.tuple #[]) ∧ GPost B g O E w2 (st.emit (binCode op d x y)) w' := by
  have hB := h.base
  obtain ⟨O1, hG, hO, hk1⟩ := h
  exact (binary_any B g O1 E st op d x y w (hG.below hk) o0 o1 hsz).mono (fun e w' ⟨r, q⟩ => ⟨r, GPost.trans hk1 hO (GPost.pre hB hk q)⟩)
theorem define2_post (h : GPost B g O E w2 st W) (hk : Below W.heap.size W w) (b2 b6 : Nat) (p : Int × Int)
    (h2 : w2.heap[b2]? = some (.cells #[.pointer (some ⟨g, 0, none⟩)] 86 (0, 0))) (h6 : w2.heap[b6]? = some (.cells #[.int .i64 p.1, .int .i64 p.2] 131 (0, 0)))
    (n2 : b2 ≠ g) (o2 : ¬ O b2) (n6 : b6 ≠ g) (o6 : ¬ O b6) (s0 : 0 ≤ E.spill) (s1 : E.spill ≤ 1000000) (q0 : 0 ≤ p.2) (p1 : p.2 ≤ 1000000) (hsz : st.code.length + 1 ≤ 1000000) :
    Calls Try.prog 113 #[.pointer (some ⟨b2, 0, none⟩), .pointer (some ⟨b6, 0, none⟩)] w
      fun e w' => e = .returned (.tuple #[]) ∧ GPost B g O E w2 (st.emit [⟨19, 14, 0, 0, E.spill + p.2⟩]) w' := by
  have hB := h.base
  have hl2 := blk_lt h2
  have hl6 := blk_lt h6
  have k2 := blk_below (gpost_blk h h2 n2 o2) hk
  have k6 := blk_below (gpost_blk h h6 n6 o6) hk
  obtain ⟨O1, hG, hO, hk1⟩ := h
  have hn : ∀ b, ¬ O b → b < w2.heap.size → ¬ O1 b := fun b h1 h2 h3 => by
    rcases hO b h3 with h | h
    · exact h1 h
    · omega
  exact (define2_any B g b2 b6 O1 E st p w (hG.below hk) k2 k6 n2 (hn _ o2 hl2) n6 (hn _ o6 hl6) s0 s1 q0 p1 hsz).mono (fun e w' ⟨r, q⟩ => ⟨r, GPost.trans hk1 hO (GPost.pre hB hk q)⟩)
end
theorem use_post {w0 : World} {g : Nat} {O : Nat → Prop} {E : GEnv} {st : GSt} {w2 W w : World} (h : GPost w0.heap.size g O E w2 st W) (hk : Below W.heap.size W w) (hB2 : Below w0.heap.size w0 w2)
    (Ap : Option Addr) (cp : Nat) (places : List (Int × Int)) (v into : Int) (hP : Kd.C kTwo w0 Ap places.length places) (hpv : E.pv = .slice Ap places.length cp)
    (v0 : 0 ≤ v) (v1 : v < places.length) (s0 : 0 ≤ E.spill) (s1 : E.spill ≤ 1000000) (p1 : (rdTwo places v).2 ≤ 1000000) (hsz : st.code.length + 1 ≤ 1000000) :
    Calls Try.prog 51 #[.pointer (some ⟨g, 0, none⟩), .int .i64 v, .int .i64 into] w
      fun e w' => e = .returned (.int .i64 (useReg (rdTwo places v) into)) ∧ GPost w0.heap.size g O E w2 (st.emit (useCode E.spill (rdTwo places v) into)) w' := by
  have hB := h.base
  have hb := (hB2.trans (gpost_below h)).trans (hk.mono hB)
  obtain ⟨O1, hG, hO, hk1⟩ := h
  exact (use_any w0 g O1 E st Ap cp places v into w (hG.below hk) hb hP hpv v0 v1 s0 s1 p1 hsz).mono (fun e w' ⟨r, q⟩ => ⟨r, GPost.trans hk1 hO (GPost.pre hB hk q)⟩)
end Go.Proofs.Ytadaopfcgpfiiaa
namespace Go.Proofs.Ytadaopfcgpfiiaa
open Go.RowKit Go.Proofs.YtadaopfcgpfiiaaW.PrintWords Go.Proofs.YtadaopfcgpfiiaaW.PrintLast Go.Proofs.YtadaopfcgpfiiaaW.PrintMore PCg
set_option linter.unusedVariables false
set_option linter.unusedSimpArgs false
def GSt.refer (st : GSt) (x : S53) (nm : ByteArray) : GSt := { st with code := st.code ++ [x], refs := st.refs ++ [⟨st.code.length, nm, isLock x.f0⟩] }
def GSt.leap (st : GSt) (x : S53) (blk : Int) : GSt := { st with code := st.code ++ [x], patches := st.patches ++ [((st.code.length : Int), blk)] }
/-- the instructions that set a register to a number -/
def constCode (d n : Int) : List S53 :=
  if d < 1 then [] else if d ≥ 16 then [] else if n ≥ -131072 ∧ n ≤ 131071 then [⟨14, d, 0, 0, wrap64 n⟩] else [⟨14, d, 0, 0, wrap64 (n / 16384)⟩, ⟨16, d, d, 0, 14⟩, ⟨17, d, d, 0, wrap64 (Go.bits .and .i32 n 16383)⟩]
theorem constCode_len (d n : Int) : (constCode d n).length ≤ 3 := by unfold constCode; (repeat' split) <;> simp
theorem const_any (d n : Int) (w : World) :
    Calls Try.prog 22 #[.int .i64 d, .int .i32 n] w fun e w' => ∃ A c, e = .returned (.slice A (constCode d n).length c) ∧ (constCode d n).length ≤ c ∧ Kd.C k53 w' A (constCode d n).length (constCode d n) ∧ Below w.heap.size w w' := by
  have h : codegen_Constant.f 5 d n = some (constCode d n) := by
    unfold codegen_Constant.f constCode codegen_Constant.j0
    (repeat' split) <;> simp_all <;> omega
  refine (codegen_Constant.calls 5 d n _ w h).mono ?_
  rintro e w' ⟨v, rfl, hR, hb⟩
  obtain ⟨A, c, rfl, hl, hC⟩ := Kd.R_reads hR
  exact ⟨A, c, rfl, hl, hC, hb⟩
/-- the code of an instruction that defines a register, ahead of the store of a spilled one -/
def genDef1 (sp : Int) (pl : List (Int × Int)) (m : ByteArray → Int) (st : GSt) (i : S51) : GSt :=
  if i.f0 = 1 then st.emit (constCode (useReg (rdTwo pl i.f1) 14) (wrap32 i.f4))
  else if i.f0 = 2 then st.emit (useCode sp (rdTwo pl i.f2) 14 ++ [⟨15, useReg (rdTwo pl i.f1) 14, useReg (rdTwo pl i.f2) 14, 0, 0⟩])
  else if i.f0 = 3 then st.emit (useCode sp (rdTwo pl i.f2) 14 ++ useCode sp (rdTwo pl i.f3) 15 ++ binCode i.f4 (useReg (rdTwo pl i.f1) 14) (useReg (rdTwo pl i.f2) 14) (useReg (rdTwo pl i.f3) 15))
  else if i.f0 = 4 then st.emit (useCode sp (rdTwo pl i.f2) 14 ++ [⟨18, useReg (rdTwo pl i.f1) 14, useReg (rdTwo pl i.f2) 14, 0, m i.f5⟩])
  else if i.f0 = 6 then (st.emit (useCode sp (rdTwo pl i.f2) 14)).refer ⟨20, useReg (rdTwo pl i.f1) 14, useReg (rdTwo pl i.f2) 14, 0, 0⟩ i.f5
  else if i.f0 = 9 then st.emit [⟨26, useReg (rdTwo pl i.f1) 14, 0, 0, i.f4⟩]
  else if i.f0 = 15 then st.emit [⟨15, useReg (rdTwo pl i.f1) 14, 10 + i.f4, 0, 0⟩]
  else st
def genDef (sp : Int) (pl : List (Int × Int)) (m : ByteArray → Int) (st : GSt) (i : S51) : GSt := (genDef1 sp pl m st i).emit (storeCode sp (rdTwo pl i.f1))
def regIn (n : Nat) (v : Int) : Prop := 0 ≤ v ∧ v < n
def defPre (n : Nat) (i : S51) : Prop :=
  i.f0 = 1 ∨ (i.f0 = 2 ∧ regIn n i.f2) ∨ (i.f0 = 3 ∧ regIn n i.f2 ∧ regIn n i.f3 ∧ 6 ≤ i.f4 ∧ i.f4 ≤ 23) ∨ (i.f0 = 4 ∧ regIn n i.f2) ∨ (i.f0 = 6 ∧ regIn n i.f2) ∨ i.f0 = 9 ∨ (i.f0 = 15 ∧ 0 ≤ i.f4 ∧ i.f4 ≤ 1000000)
theorem callFunc_define1 (args : Array Value) (W : World) : (callFunc 112 args).run Try.prog W = .ok (.enter 112 args) W := by kernel_rfl
theorem callFunc_define2 (args : Array Value) (W : World) : (callFunc 113 args).run Try.prog W = .ok (.enter 113 args) W := by kernel_rfl
set_option maxRecDepth 100000 in
set_option maxHeartbeats 4000000 in
theorem definition_any (w0 : World) (g : Nat) (O : Nat → Prop) (E : GEnv) (st : GSt) (Ap : Option Addr) (cp : Nat) (places : List (Int × Int)) (N : Nat) (m : ByteArray → Int) (i : S51) (w : World)
    (hG : Gen w w0.heap.size g O E st) (hB : Below w0.heap.size w0 w) (hP : Kd.C kTwo w0 Ap places.length places) (hpv : E.pv = .slice Ap places.length cp)
    (hM : GMap w E.mb N m) (hmg : E.mb ≠ g) (hmO : ¬ O E.mb) (s0 : 0 ≤ E.spill) (s1 : E.spill ≤ 1000000) (hpl : ∀ v, (rdTwo places v).2 ≤ 1000000)
    (hsz : st.code.length + 12 ≤ 1000000) (hrz : st.refs.length + 1 ≤ 1000000) (hns : i.f5.size ≤ maxLen) (hd : regIn places.length i.f1) (hi : defPre places.length i) :
    Calls Try.prog 77 #[.pointer (some ⟨g, 0, none⟩), .agg #[.int .u8 i.f0, .int .i64 i.f1, .int .i64 i.f2, .int .i64 i.f3, .int .i64 i.f4, .string i.f5]] w
      fun e w' => e = .returned (.tuple #[]) ∧ GPost w0.heap.size g O E w (genDef E.spill places m st i) w' := by
  have hg0 := hG.lt
  have hm0 := hM.lt
  have hn : ∀ k, w.heap.size ≤ k → ¬ O k := fun k hk ho => by obtain ⟨_, _, _, _, _, _, _, hO, _⟩ := hG; have := hO _ ho; omega
  have HN := Aside0.mk hn
  have HBw : Aside0 (w0.heap.size ≤ w.heap.size) := ⟨by obtain ⟨_, _, _, _, _, _, h, _⟩ := hG; exact h⟩
  have HG := Aside0.mk hG; have HB := Aside0.mk hB; have HP := Aside0.mk hP; have HPV := Aside0.mk hpv; have HM := Aside0.mk hM; have HMO := Aside0.mk hmO
  clear hG hB hP hpv hM hn hmO
  obtain ⟨op, dst, x, y, imm, sym⟩ := i
  simp only [defPre, regIn] at hi
  dsimp only at hns hd hi ⊢
  obtain ⟨hd0, hd1⟩ := hd
  have hu := Try.underlying51
  have hu2 := Try.underlying90
  go_enter Try.func77, Try.ntmps77
  go_wp2_with fail
  have hw1 := below_alloc (Below.refl w.heap.size w) (.cells #[.int .u8 op, .int .i64 dst, .int .i64 x, .int .i64 y, .int .i64 imm, .string sym] 51)
  have hI := blk_new w (.cells #[.int .u8 op, .int .i64 dst, .int .i64 x, .int .i64 y, .int .i64 imm, .string sym] 51)
  refine (define_any w0 g O E st Ap cp places dst _ (HG.out.below hw1) (HB.out.trans (hw1.mono HBw.out)) HP.out HPV.out hd0 hd1).mono ?_
  rintro e w2 ⟨hb2, h2, h6, rfl⟩
  rw [show (w.alloc (.cells #[.int .u8 op, .int .i64 dst, .int .i64 x, .int .i64 y, .int .i64 imm, .string sym] 51)).heap.size = w.heap.size + 1 from by simp] at h2 h6
  have hI2 := blk_below hI hb2
  have HB2 := Aside0.mk (below_step hw1 hb2)
  have HI := Aside0.mk hI2; have H2 := Aside0.mk h2; have H6 := Aside0.mk h6
  obtain ⟨i0, i1, i2, i3, i4, i5⟩ := blk6 hI2
  have hl2 := blk_lt hI2
  have hl6 := blk_lt h6
  have HQ : Aside0 (GPost w0.heap.size g O E w2 st w2) := ⟨GPost.same (HG.out.below HB2.out)⟩
  have HM2 : Aside0 (GMap w2 E.mb N m) := ⟨HM.out.below HB2.out⟩
  have HW2 : Aside0 (Below w0.heap.size w0 w2) := ⟨HB.out.trans (HB2.out.mono HBw.out)⟩
  have HNI : Aside0 (¬ O w.heap.size) := ⟨HN.out _ (by omega)⟩
  have hnI : w.heap.size ≠ g := by omega
  have HNM : Aside0 (¬ O E.mb) := ⟨HMO.out⟩
  rw [show (w.alloc (.cells #[.int .u8 op, .int .i64 dst, .int .i64 x, .int .i64 y, .int .i64 imm, .string sym] 51)).heap.size = w.heap.size + 1 from by simp]
  obtain ⟨fn, cap, hsf, hcf, hst⟩ : ∃ (fn : FuncId) (cap : Array Value), (if (rdTwo places dst).2 < 0 then .func (.func 112) #[] #[] else .func (.func 113) #[] #[.pointer (some ⟨w.heap.size + 1, 0, none⟩), .pointer (some ⟨w.heap.size + 1 + 1, 0, none⟩)] : Value) = .func (.func fn) #[] cap ∧
      (∀ (args : Array Value) (W : World), (callFunc fn args).run Try.prog W = .ok (.enter fn args) W) ∧
      (∀ st W w', GPost w0.heap.size g O E w2 st W → Below W.heap.size W w' → st.code.length + 1 ≤ 1000000 → Calls Try.prog fn cap w' fun e w'' => e = .returned (.tuple #[]) ∧ GPost w0.heap.size g O E w2 (st.emit (storeCode E.spill (rdTwo places dst))) w'') := by
    by_cases hs : (rdTwo places dst).2 < 0
    · refine ⟨112, #[], by rw [if_pos hs], callFunc_define1, fun st W w' h hk _ => (define1_any w').mono ?_⟩
      rintro e w'' ⟨rfl, rfl⟩
      refine ⟨rfl, ?_⟩
      rw [show storeCode E.spill (rdTwo places dst) = [] from by simp [storeCode, hs], emit_nil]
      exact h.below hk
    · refine ⟨113, _, by rw [if_neg hs], callFunc_define2, fun st W w' h hk hz => ?_⟩
      rw [show storeCode E.spill (rdTwo places dst) = [⟨19, 14, 0, 0, E.spill + (rdTwo places dst).2⟩] from by simp [storeCode, hs]]
      exact define2_post h hk (w.heap.size + 1) (w.heap.size + 1 + 1) (rdTwo places dst) H2.out H6.out (by omega) (HN.out _ (by omega)) (by omega) (HN.out _ (by omega)) s0 s1 (by omega) (hpl _) hz
  rw [hsf]
  have HST := Aside0.mk hst
  clear hsf hst hw1 hI hI2 h2 h6 hb2
  have HL1 := Aside0.mk (constCode_len (useReg (rdTwo places dst) 14) (wrap32 imm))
  have HL2 := Aside0.mk (useCode_len E.spill (rdTwo places x) 14)
  have HL3 := Aside0.mk (useCode_len E.spill (rdTwo places y) 15)
  have HL4 := Aside0.mk (binCode_len imm (useReg (rdTwo places dst) 14) (useReg (rdTwo places x) 14) (useReg (rdTwo places y) 15))
  rcases hi with rfl | ⟨rfl, hx0, hx1⟩ | ⟨rfl, ⟨hx0, hx1⟩, ⟨hy0, hy1⟩, o0, o1⟩ | ⟨rfl, hx0, hx1⟩ | ⟨rfl, hx0, hx1⟩ | rfl | ⟨rfl, o0, o1⟩
  · -- Const
    go_wp2_with (first
      | (go_at_call 22
         refine (const_any _ _ _).mono ?_
         rintro e w3 ⟨A3, c3, rfl, hl3, hC3, hb3⟩
         have HC3 := Aside0.mk hC3; have HB3 := Aside0.mk hb3; have HL5 := Aside0.mk hl3; clear hC3 hb3 hl3)
      | (go_at_call 29
         refine (emit_post HQ.out HB3.out A3 c3 _ HC3.out HL5.out ?_).mono ?_
         (have h1 := HL1.out; omega)
         rintro e w9 ⟨rfl, hq9⟩
         have hq := Aside0.mk hq9; clear hq9))
    refine (HST.out _ _ _ hq.out (by (first | exact Below.refl _ _ | exact below_drew (Below.refl _ _) | exact below_alloc (Below.refl _ _) _ | exact below_drew (below_alloc (Below.refl _ _) _))) ?_).mono ?_
    · have h1 := HL1.out; have h2 := HL2.out; have h3 := HL3.out; have h4 := HL4.out; (simp only [GSt.emit, GSt.refer, List.length_append, List.length_cons, List.length_nil]; omega)
    rintro e w10 ⟨rfl, hq10⟩
    have hq' := Aside0.mk hq10; clear hq10
    go_wp2
    go_end0
    refine ⟨rfl, gpost_code (GPost.pre HBw.out HB2.out hq'.out) ?_⟩
    simp [genDef, genDef1, emit_nil, emit_emit, GSt.refer]
  · -- Copy
    go_wp2_with (first
      | (go_at_call 51
         refine (use_post HQ.out ?_ HW2.out Ap cp places x 14 HP.out HPV.out hx0 hx1 s0 s1 (hpl _) ?_).mono ?_
         (first | exact Below.refl _ _ | exact below_drew (Below.refl _ _) | exact below_alloc (Below.refl _ _) _ | exact below_drew (below_alloc (Below.refl _ _) _))
         (omega)
         rintro e w3 ⟨rfl, hq3⟩
         have hq1 := Aside0.mk hq3; clear hq3)
      | (go_at_call 29
         refine (emit1_post hq1.out ?_ _ 53 15 (useReg (rdTwo places dst) 14) (useReg (rdTwo places x) 14) 0 0 ?_ ?_).mono ?_
         (first | exact Below.refl _ _ | exact below_drew (Below.refl _ _) | exact below_alloc (Below.refl _ _) _ | exact below_drew (below_alloc (Below.refl _ _) _))
         (first | exact blk_new _ _ | exact blk_drew (blk_new _ _))
         (have h2 := HL2.out; (simp only [GSt.emit, GSt.refer, List.length_append, List.length_cons, List.length_nil]; omega))
         rintro e w9 ⟨rfl, hq9⟩
         have hq := Aside0.mk hq9; clear hq9))
    refine (HST.out _ _ _ hq.out (by (first | exact Below.refl _ _ | exact below_drew (Below.refl _ _) | exact below_alloc (Below.refl _ _) _ | exact below_drew (below_alloc (Below.refl _ _) _))) ?_).mono ?_
    · have h1 := HL1.out; have h2 := HL2.out; have h3 := HL3.out; have h4 := HL4.out; (simp only [GSt.emit, GSt.refer, List.length_append, List.length_cons, List.length_nil]; omega)
    rintro e w10 ⟨rfl, hq10⟩
    have hq' := Aside0.mk hq10; clear hq10
    go_wp2
    go_end0
    refine ⟨rfl, gpost_code (GPost.pre HBw.out HB2.out hq'.out) ?_⟩
    simp [genDef, genDef1, emit_nil, emit_emit, GSt.refer]
  · -- Bin
    go_wp2_with fail
    go_region_held3 (fun W => W.cell? ⟨w.heap.size, 2, none⟩ = some (.int .i64 x) ∧ W.cell? ⟨w.heap.size, 3, none⟩ = some (.int .i64 y))
      (first
        | go_keep
        | exact ⟨(blk_cell (gpost_blk hq2.out HI.out hnI HNI.out) 2).trans rfl, (blk_cell (gpost_blk hq2.out HI.out hnI HNI.out) 3).trans rfl⟩
        | exact ⟨(blk_cell (gpost_blk hq1.out HI.out hnI HNI.out) 2).trans rfl, (blk_cell (gpost_blk hq1.out HI.out hnI HNI.out) 3).trans rfl⟩)
      (first
        | (go_at_call 51
           with_reducible refine (use_post HQ.out ?_ HW2.out Ap cp places x 14 HP.out HPV.out hx0 hx1 s0 s1 (hpl _) ?_).mono ?_
           (first | exact Below.refl _ _ | exact below_drew (Below.refl _ _) | exact below_alloc (Below.refl _ _) _ | exact below_drew (below_alloc (Below.refl _ _) _))
           (omega)
           rintro e w3 ⟨rfl, hq3⟩
           have hq1 := Aside0.mk hq3; clear hq3)
        | (go_at_call 51
           with_reducible refine (use_post hq1.out ?_ HW2.out Ap cp places y 15 HP.out HPV.out hy0 hy1 s0 s1 (hpl _) ?_).mono ?_
           (first | exact Below.refl _ _ | exact below_drew (Below.refl _ _) | exact below_alloc (Below.refl _ _) _ | exact below_drew (below_alloc (Below.refl _ _) _))
           (have h2 := HL2.out; (simp only [GSt.emit, GSt.refer, List.length_append, List.length_cons, List.length_nil]; omega))
           rintro e w4 ⟨rfl, hq4⟩
           have hq2 := Aside0.mk hq4; clear hq4))
    have j4 : w4.cell? ⟨w.heap.size, 4, none⟩ = some (.int .i64 imm) := (blk_cell (gpost_blk hq2.out HI.out hnI HNI.out) 4).trans rfl
    have hl4 := blk_lt (gpost_blk hq2.out HI.out hnI HNI.out)
    have hw8 : IntKind.u8.wrap imm = imm := IntWalk.u8_in _ (by omega)
    go_wp2_with (first
      | (go_at_call 98
         refine (binary_post hq2.out ?_ imm (useReg (rdTwo places dst) 14) (useReg (rdTwo places x) 14) (useReg (rdTwo places y) 15) o0 o1 ?_).mono ?_
         (first | exact Below.refl _ _ | exact below_drew (Below.refl _ _) | exact below_alloc (Below.refl _ _) _ | exact below_drew (below_alloc (Below.refl _ _) _))
         (have h2 := HL2.out; have h3 := HL3.out; (simp only [GSt.emit, GSt.refer, List.length_append, List.length_cons, List.length_nil]; omega))
         rintro e w9 ⟨rfl, hq9⟩
         have hq := Aside0.mk hq9; clear hq9))
    refine (HST.out _ _ _ hq.out (by (first | exact Below.refl _ _ | exact below_drew (Below.refl _ _) | exact below_alloc (Below.refl _ _) _ | exact below_drew (below_alloc (Below.refl _ _) _))) ?_).mono ?_
    · have h1 := HL1.out; have h2 := HL2.out; have h3 := HL3.out; have h4 := HL4.out; (simp only [GSt.emit, GSt.refer, List.length_append, List.length_cons, List.length_nil]; omega)
    rintro e w10 ⟨rfl, hq10⟩
    have hq' := Aside0.mk hq10; clear hq10
    go_wp2
    go_end0
    refine ⟨rfl, gpost_code (GPost.pre HBw.out HB2.out hq'.out) ?_⟩
    simp [genDef, genDef1, emit_nil, emit_emit, GSt.refer]
  · -- Load
    go_wp2_with fail
    have cm := gpost_cell10 HQ.out
    have hltg : g < w2.heap.size := by omega
    have lk := HM2.out.look hns
    go_region_held3 (fun W => W.cell? ⟨w.heap.size, 2, none⟩ = some (.int .i64 x) ∧ W.cell? ⟨w.heap.size, 5, none⟩ = some (.string sym) ∧ W.cell? ⟨g, 10, none⟩ = some (.map (some E.mb)) ∧ (Instr.lookup 87 (.map (some E.mb)) (.string sym) false).run Try.prog W = .ok (.int .i64 (m sym)) W)
      (first
        | exact ⟨by go_keep, by go_keep, by go_keep, (HM2.out.below (by (first | exact Below.refl _ _ | exact below_drew (Below.refl _ _) | exact below_alloc (Below.refl _ _) _ | exact below_drew (below_alloc (Below.refl _ _) _)))).look hns⟩
        | exact ⟨by go_keep, by go_keep, by go_keep, ((HM2.out.post hq1.out hmg HNM.out).below (by (first | exact Below.refl _ _ | exact below_drew (Below.refl _ _) | exact below_alloc (Below.refl _ _) _ | exact below_drew (below_alloc (Below.refl _ _) _)))).look hns⟩
        | exact ⟨(blk_cell (gpost_blk hq.out HI.out hnI HNI.out) 2).trans rfl, (blk_cell (gpost_blk hq.out HI.out hnI HNI.out) 5).trans rfl, gpost_cell10 hq.out, (HM2.out.post hq.out hmg HNM.out).look hns⟩
        | exact ⟨(blk_cell (gpost_blk hq1.out HI.out hnI HNI.out) 2).trans rfl, (blk_cell (gpost_blk hq1.out HI.out hnI HNI.out) 5).trans rfl, gpost_cell10 hq1.out, (HM2.out.post hq1.out hmg HNM.out).look hns⟩)
      (first
        | (go_at_call 51
           with_reducible refine (use_post HQ.out ?_ HW2.out Ap cp places x 14 HP.out HPV.out hx0 hx1 s0 s1 (hpl _) ?_).mono ?_
           (first | exact Below.refl _ _ | exact below_drew (Below.refl _ _) | exact below_alloc (Below.refl _ _) _ | exact below_drew (below_alloc (Below.refl _ _) _))
           (omega)
           rintro e w3 ⟨rfl, hq3⟩
           have hq1 := Aside0.mk hq3; clear hq3)
        | (go_at_call 29
           with_reducible refine (emit1_post hq1.out ?_ _ 53 18 (useReg (rdTwo places dst) 14) (useReg (rdTwo places x) 14) 0 (m sym) ?_ ?_).mono ?_
           (first | exact Below.refl _ _ | exact below_drew (Below.refl _ _) | exact below_alloc (Below.refl _ _) _ | exact below_drew (below_alloc (Below.refl _ _) _))
           (first | exact blk_new _ _ | exact blk_drew (blk_new _ _))
           (have h2 := HL2.out; (simp only [GSt.emit, GSt.refer, List.length_append, List.length_cons, List.length_nil]; omega))
           rintro e w9 ⟨rfl, hq9⟩
           have hq := Aside0.mk hq9; clear hq9))
    all_goals (
      go_wp2_with fail
      refine (HST.out _ _ _ hq.out (by (first | exact Below.refl _ _ | exact below_drew (Below.refl _ _) | exact below_alloc (Below.refl _ _) _ | exact below_drew (below_alloc (Below.refl _ _) _))) ?_).mono ?_
      · have h1 := HL1.out; have h2 := HL2.out; have h3 := HL3.out; have h4 := HL4.out; (simp only [GSt.emit, GSt.refer, List.length_append, List.length_cons, List.length_nil]; omega)
      rintro e w10 ⟨rfl, hq10⟩
      have hq' := Aside0.mk hq10; clear hq10
      go_wp2
      go_end0
      refine ⟨rfl, gpost_code (GPost.pre HBw.out HB2.out hq'.out) ?_⟩
      simp [genDef, genDef1, emit_nil, emit_emit, GSt.refer])
  · -- LoadS
    go_wp2_with fail
    go_region_held3 (fun W => W.cell? ⟨w.heap.size, 2, none⟩ = some (.int .i64 x) ∧ W.cell? ⟨w.heap.size, 5, none⟩ = some (.string sym))
      (first
        | go_keep
        | exact ⟨(blk_cell (gpost_blk hq.out HI.out hnI HNI.out) 2).trans rfl, (blk_cell (gpost_blk hq.out HI.out hnI HNI.out) 5).trans rfl⟩
        | exact ⟨(blk_cell (gpost_blk hq1.out HI.out hnI HNI.out) 2).trans rfl, (blk_cell (gpost_blk hq1.out HI.out hnI HNI.out) 5).trans rfl⟩)
      (first
        | (go_at_call 51
           with_reducible refine (use_post HQ.out ?_ HW2.out Ap cp places x 14 HP.out HPV.out hx0 hx1 s0 s1 (hpl _) ?_).mono ?_
           (first | exact Below.refl _ _ | exact below_drew (Below.refl _ _) | exact below_alloc (Below.refl _ _) _ | exact below_drew (below_alloc (Below.refl _ _) _))
           (omega)
           rintro e w3 ⟨rfl, hq3⟩
           have hq1 := Aside0.mk hq3; clear hq3)
        | (go_at_call 76
           with_reducible refine (shared_post hq1.out ?_ 20 (useReg (rdTwo places dst) 14) (useReg (rdTwo places x) 14) 0 0 sym ?_ ?_).mono ?_
           (first | exact Below.refl _ _ | exact below_drew (Below.refl _ _) | exact below_alloc (Below.refl _ _) _ | exact below_drew (below_alloc (Below.refl _ _) _))
           (have h2 := HL2.out; (simp only [GSt.emit, GSt.refer, List.length_append, List.length_cons, List.length_nil]; omega))
           (simp only [GSt.emit]; omega)
           rintro e w9 ⟨rfl, hq9⟩
           have hq := Aside0.mk hq9; clear hq9))
    all_goals (
      go_wp2_with fail
      refine (HST.out _ _ _ hq.out (by (first | exact Below.refl _ _ | exact below_drew (Below.refl _ _) | exact below_alloc (Below.refl _ _) _ | exact below_drew (below_alloc (Below.refl _ _) _))) ?_).mono ?_
      · have h1 := HL1.out; have h2 := HL2.out; have h3 := HL3.out; have h4 := HL4.out; (simp only [GSt.emit, GSt.refer, List.length_append, List.length_cons, List.length_nil]; omega)
      rintro e w10 ⟨rfl, hq10⟩
      have hq' := Aside0.mk hq10; clear hq10
      go_wp2
      go_end0
      refine ⟨rfl, gpost_code (GPost.pre HBw.out HB2.out hq'.out) ?_⟩
      simp [genDef, genDef1, emit_nil, emit_emit, GSt.refer])
  · -- In
    go_wp2_with (first
      | (go_at_call 29
         refine (emit1_post HQ.out ?_ _ 53 26 (useReg (rdTwo places dst) 14) 0 0 imm ?_ ?_).mono ?_
         (first | exact Below.refl _ _ | exact below_drew (Below.refl _ _) | exact below_alloc (Below.refl _ _) _ | exact below_drew (below_alloc (Below.refl _ _) _))
         (first | exact blk_new _ _ | exact blk_drew (blk_new _ _))
         (omega)
         rintro e w9 ⟨rfl, hq9⟩
         have hq := Aside0.mk hq9; clear hq9))
    refine (HST.out _ _ _ hq.out (by (first | exact Below.refl _ _ | exact below_drew (Below.refl _ _) | exact below_alloc (Below.refl _ _) _ | exact below_drew (below_alloc (Below.refl _ _) _))) ?_).mono ?_
    · have h1 := HL1.out; have h2 := HL2.out; have h3 := HL3.out; have h4 := HL4.out; (simp only [GSt.emit, GSt.refer, List.length_append, List.length_cons, List.length_nil]; omega)
    rintro e w10 ⟨rfl, hq10⟩
    have hq' := Aside0.mk hq10; clear hq10
    go_wp2
    go_end0
    refine ⟨rfl, gpost_code (GPost.pre HBw.out HB2.out hq'.out) ?_⟩
    simp [genDef, genDef1, emit_nil, emit_emit, GSt.refer]
  · -- Count
    have hw10 : IntKind.i64.wrap (10 + imm) = 10 + imm := IntWalk.i64_in _ (by omega)
    go_wp2_with (first
      | (go_at_call 29
         refine (emit1_post HQ.out ?_ _ 53 15 (useReg (rdTwo places dst) 14) (10 + imm) 0 0 ?_ ?_).mono ?_
         (first | exact Below.refl _ _ | exact below_drew (Below.refl _ _) | exact below_alloc (Below.refl _ _) _ | exact below_drew (below_alloc (Below.refl _ _) _))
         (first | exact blk_new _ _ | exact blk_drew (blk_new _ _))
         (omega)
         rintro e w9 ⟨rfl, hq9⟩
         have hq := Aside0.mk hq9; clear hq9))
    refine (HST.out _ _ _ hq.out (by (first | exact Below.refl _ _ | exact below_drew (Below.refl _ _) | exact below_alloc (Below.refl _ _) _ | exact below_drew (below_alloc (Below.refl _ _) _))) ?_).mono ?_
    · have h1 := HL1.out; have h2 := HL2.out; have h3 := HL3.out; have h4 := HL4.out; (simp only [GSt.emit, GSt.refer, List.length_append, List.length_cons, List.length_nil]; omega)
    rintro e w10 ⟨rfl, hq10⟩
    have hq' := Aside0.mk hq10; clear hq10
    go_wp2
    go_end0
    refine ⟨rfl, gpost_code (GPost.pre HBw.out HB2.out hq'.out) ?_⟩
    simp [genDef, genDef1, emit_nil, emit_emit, GSt.refer]
end Go.Proofs.Ytadaopfcgpfiiaa
namespace Go.Proofs.Ytadaopfcgpfiiaa
open Go.RowKit Go.Proofs.YtadaopfcgpfiiaaW.PrintWords Go.Proofs.YtadaopfcgpfiiaaW.PrintLast Go.Proofs.YtadaopfcgpfiiaaW.PrintMore PCg
set_option linter.unusedVariables false
set_option linter.unusedSimpArgs false
/-- the code of an instruction -/
def genIns (sp : Int) (pl : List (Int × Int)) (m : ByteArray → Int) (st : GSt) (i : S51) : GSt :=
  if i.f0 = 5 then st.emit (useCode sp (rdTwo pl i.f2) 14 ++ useCode sp (rdTwo pl i.f3) 15 ++ [⟨19, useReg (rdTwo pl i.f3) 15, useReg (rdTwo pl i.f2) 14, 0, m i.f5⟩])
  else if i.f0 = 7 then (st.emit (useCode sp (rdTwo pl i.f2) 14 ++ useCode sp (rdTwo pl i.f3) 15)).refer ⟨21, useReg (rdTwo pl i.f3) 15, useReg (rdTwo pl i.f2) 14, 0, 0⟩ i.f5
  else if i.f0 = 8 then st.emit (useCode sp (rdTwo pl i.f2) 14 ++ [⟨25, useReg (rdTwo pl i.f2) 14, 0, 0, i.f4⟩])
  else if i.f0 = 10 then st.emit (useCode sp (rdTwo pl i.f2) 14 ++ [⟨27, useReg (rdTwo pl i.f2) 14, 0, 0, i.f4⟩])
  else if i.f0 = 11 then st.refer ⟨28, 0, 0, 0, 0⟩ i.f5
  else if i.f0 = 12 then st.refer ⟨29, 0, 0, 0, 0⟩ i.f5
  else if i.f0 = 13 then st.emit [⟨14, 10 + i.f4, 0, 0, 0⟩]
  else if i.f0 = 14 then st.emit [⟨15, 10 + i.f4, 10 + i.f4, 0, 1⟩]
  else if i.f0 = 16 then st.emit [⟨25, 10 + i.f2, 0, 0, i.f4⟩]
  else genDef sp pl m st i
def insPre (n : Nat) (i : S51) : Prop :=
  (i.f0 = 5 ∧ regIn n i.f2 ∧ regIn n i.f3) ∨ (i.f0 = 7 ∧ regIn n i.f2 ∧ regIn n i.f3) ∨ (i.f0 = 8 ∧ regIn n i.f2) ∨ (i.f0 = 10 ∧ regIn n i.f2) ∨ i.f0 = 11 ∨ i.f0 = 12 ∨ (i.f0 = 13 ∧ 0 ≤ i.f4 ∧ i.f4 ≤ 1000000) ∨ (i.f0 = 14 ∧ 0 ≤ i.f4 ∧ i.f4 ≤ 1000000) ∨ (i.f0 = 16 ∧ 0 ≤ i.f2 ∧ i.f2 ≤ 1000000) ∨ (defPre n i ∧ regIn n i.f1)
set_option maxRecDepth 100000 in
set_option maxHeartbeats 4000000 in
theorem instruction_any (w0 : World) (g : Nat) (O : Nat → Prop) (E : GEnv) (st : GSt) (Ap : Option Addr) (cp : Nat) (places : List (Int × Int)) (N : Nat) (m : ByteArray → Int) (i : S51) (w : World)
    (hG : Gen w w0.heap.size g O E st) (hB : Below w0.heap.size w0 w) (hP : Kd.C kTwo w0 Ap places.length places) (hpv : E.pv = .slice Ap places.length cp)
    (hM : GMap w E.mb N m) (hmg : E.mb ≠ g) (hmO : ¬ O E.mb) (s0 : 0 ≤ E.spill) (s1 : E.spill ≤ 1000000) (hpl : ∀ v, (rdTwo places v).2 ≤ 1000000)
    (hsz : st.code.length + 12 ≤ 1000000) (hrz : st.refs.length + 1 ≤ 1000000) (hns : i.f5.size ≤ maxLen) (hi : insPre places.length i) :
    Calls Try.prog 49 #[.pointer (some ⟨g, 0, none⟩), .agg #[.int .u8 i.f0, .int .i64 i.f1, .int .i64 i.f2, .int .i64 i.f3, .int .i64 i.f4, .string i.f5]] w
      fun e w' => e = .returned (.tuple #[]) ∧ GPost w0.heap.size g O E w (genIns E.spill places m st i) w' := by
  have hg0 := hG.lt
  have hm0 := hM.lt
  have hn : ∀ k, w.heap.size ≤ k → ¬ O k := fun k hk ho => by obtain ⟨_, _, _, _, _, _, _, hO, _⟩ := hG; have := hO _ ho; omega
  have HN := Aside0.mk hn
  have HBw : Aside0 (w0.heap.size ≤ w.heap.size) := ⟨by obtain ⟨_, _, _, _, _, _, h, _⟩ := hG; exact h⟩
  have HG := Aside0.mk hG; have HB := Aside0.mk hB; have HP := Aside0.mk hP; have HPV := Aside0.mk hpv; have HM := Aside0.mk hM; have HNM := Aside0.mk hmO
  clear hG hB hP hpv hM hn hmO
  obtain ⟨op, dst, x, y, imm, sym⟩ := i
  simp only [insPre, defPre, regIn] at hi
  dsimp only at hns hi ⊢
  have hu := Try.underlying51
  have hu2 := Try.underlying90
  obtain ⟨w2, hw2⟩ : ∃ w2, w.alloc (.cells #[.int .u8 op, .int .i64 dst, .int .i64 x, .int .i64 y, .int .i64 imm, .string sym] 51) = w2 := ⟨_, rfl⟩
  have hb2 : Below w.heap.size w w2 := by rw [← hw2]; exact below_alloc (Below.refl _ _) _
  have hI2 : w2.heap[w.heap.size]? = some (.cells #[.int .u8 op, .int .i64 dst, .int .i64 x, .int .i64 y, .int .i64 imm, .string sym] 51 (0, 0)) := by rw [← hw2]; exact blk_new _ _
  have HB2 := Aside0.mk hb2
  have HI := Aside0.mk hI2
  obtain ⟨i0, i1, i2, i3, i4, i5⟩ := blk6 hI2
  have hl2 := blk_lt hI2
  have HQ : Aside0 (GPost w0.heap.size g O E w2 st w2) := ⟨GPost.same (HG.out.below HB2.out)⟩
  have HM2 : Aside0 (GMap w2 E.mb N m) := ⟨HM.out.below HB2.out⟩
  have HW2 : Aside0 (Below w0.heap.size w0 w2) := ⟨HB.out.trans (HB2.out.mono HBw.out)⟩
  have HNI : Aside0 (¬ O w.heap.size) := ⟨HN.out _ (by omega)⟩
  have hnI : w.heap.size ≠ g := by omega
  have HL2 := Aside0.mk (useCode_len E.spill (rdTwo places x) 14)
  have HL3 := Aside0.mk (useCode_len E.spill (rdTwo places y) 15)
  clear hb2 hI2
  go_enter Try.func49, Try.ntmps49
  rcases hi with ⟨rfl, ⟨hx0, hx1⟩, hy0, hy1⟩ | ⟨rfl, ⟨hx0, hx1⟩, hy0, hy1⟩ | ⟨rfl, hx0, hx1⟩ | ⟨rfl, hx0, hx1⟩ | rfl | rfl | ⟨rfl, o0, o1⟩ | ⟨rfl, o0, o1⟩ | ⟨rfl, o0, o1⟩ | ⟨hdp, hd0, hd1⟩
  · -- Store
    go_wp2_with fail
    go_region_held3 (fun W => W.cell? ⟨w.heap.size, 2, none⟩ = some (.int .i64 x) ∧ W.cell? ⟨w.heap.size, 3, none⟩ = some (.int .i64 y))
      (first
        | go_keep
        | exact ⟨(blk_cell (gpost_blk hq2.out HI.out hnI HNI.out) 2).trans rfl, (blk_cell (gpost_blk hq2.out HI.out hnI HNI.out) 3).trans rfl⟩
        | exact ⟨(blk_cell (gpost_blk hq1.out HI.out hnI HNI.out) 2).trans rfl, (blk_cell (gpost_blk hq1.out HI.out hnI HNI.out) 3).trans rfl⟩)
      (first
        | (go_at_call 51
           with_reducible refine (use_post HQ.out ?_ HW2.out Ap cp places x 14 HP.out HPV.out hx0 hx1 s0 s1 (hpl _) ?_).mono ?_
           (first | exact Below.refl _ _ | exact below_drew (Below.refl _ _) | exact below_alloc (Below.refl _ _) _ | exact below_drew (below_alloc (Below.refl _ _) _))
           (omega)
           rintro e w3 ⟨rfl, hq3⟩
           have hq1 := Aside0.mk hq3; clear hq3)
        | (go_at_call 51
           with_reducible refine (use_post hq1.out ?_ HW2.out Ap cp places y 15 HP.out HPV.out hy0 hy1 s0 s1 (hpl _) ?_).mono ?_
           (first | exact Below.refl _ _ | exact below_drew (Below.refl _ _) | exact below_alloc (Below.refl _ _) _ | exact below_drew (below_alloc (Below.refl _ _) _))
           (have h2 := HL2.out; (simp only [GSt.emit, GSt.refer, List.length_append, List.length_cons, List.length_nil]; omega))
           rintro e w4 ⟨rfl, hq4⟩
           have hq2 := Aside0.mk hq4; clear hq4))
    have j0 : w4.cell? ⟨w.heap.size, 0, none⟩ = some (.int .u8 5) := (blk_cell (gpost_blk hq2.out HI.out hnI HNI.out) 0).trans rfl
    have j5 : w4.cell? ⟨w.heap.size, 5, none⟩ = some (.string sym) := (blk_cell (gpost_blk hq2.out HI.out hnI HNI.out) 5).trans rfl
    have hl4 := blk_lt (gpost_blk hq2.out HI.out hnI HNI.out)
    have cm := gpost_cell10 hq2.out
    have hltg : g < w4.heap.size := Nat.lt_of_lt_of_le (by omega) (gpost_size hq2.out)
    have lk := (HM2.out.post hq2.out hmg HNM.out).look hns
    go_wp2_with fail
    go_region_held3 (fun W => W.cell? ⟨w.heap.size, 5, none⟩ = some (.string sym) ∧ W.cell? ⟨g, 10, none⟩ = some (.map (some E.mb)) ∧ (Instr.lookup 87 (.map (some E.mb)) (.string sym) false).run Try.prog W = .ok (.int .i64 (m sym)) W)
      (first
        | exact ⟨by go_keep, by go_keep, ((HM2.out.post hq2.out hmg HNM.out).below (by (first | exact Below.refl _ _ | exact below_drew (Below.refl _ _) | exact below_alloc (Below.refl _ _) _ | exact below_drew (below_alloc (Below.refl _ _) _)))).look hns⟩
        | exact ⟨(blk_cell (gpost_blk hq.out HI.out hnI HNI.out) 5).trans rfl, gpost_cell10 hq.out, (HM2.out.post hq.out hmg HNM.out).look hns⟩)
      (first
        | (go_at_call 29
           with_reducible refine (emit1_post hq2.out ?_ _ 53 19 (useReg (rdTwo places y) 15) (useReg (rdTwo places x) 14) 0 (m sym) ?_ ?_).mono ?_
           (first | exact Below.refl _ _ | exact below_drew (Below.refl _ _) | exact below_alloc (Below.refl _ _) _ | exact below_drew (below_alloc (Below.refl _ _) _))
           (first | exact blk_new _ _ | exact blk_drew (blk_new _ _))
           (have h2 := HL2.out; have h3 := HL3.out; (simp only [GSt.emit, GSt.refer, List.length_append, List.length_cons, List.length_nil]; omega))
           rintro e w9 ⟨rfl, hq9⟩
           have hq := Aside0.mk hq9; clear hq9))
    all_goals (
      go_wp2_with fail
      go_end0
      refine ⟨rfl, gpost_code (GPost.pre HBw.out HB2.out hq.out) ?_⟩
      simp [genIns, emit_nil, emit_emit, GSt.refer])
  · -- StoreS
    go_wp2_with fail
    go_region_held3 (fun W => W.cell? ⟨w.heap.size, 2, none⟩ = some (.int .i64 x) ∧ W.cell? ⟨w.heap.size, 3, none⟩ = some (.int .i64 y))
      (first
        | go_keep
        | exact ⟨(blk_cell (gpost_blk hq2.out HI.out hnI HNI.out) 2).trans rfl, (blk_cell (gpost_blk hq2.out HI.out hnI HNI.out) 3).trans rfl⟩
        | exact ⟨(blk_cell (gpost_blk hq1.out HI.out hnI HNI.out) 2).trans rfl, (blk_cell (gpost_blk hq1.out HI.out hnI HNI.out) 3).trans rfl⟩)
      (first
        | (go_at_call 51
           with_reducible refine (use_post HQ.out ?_ HW2.out Ap cp places x 14 HP.out HPV.out hx0 hx1 s0 s1 (hpl _) ?_).mono ?_
           (first | exact Below.refl _ _ | exact below_drew (Below.refl _ _) | exact below_alloc (Below.refl _ _) _ | exact below_drew (below_alloc (Below.refl _ _) _))
           (omega)
           rintro e w3 ⟨rfl, hq3⟩
           have hq1 := Aside0.mk hq3; clear hq3)
        | (go_at_call 51
           with_reducible refine (use_post hq1.out ?_ HW2.out Ap cp places y 15 HP.out HPV.out hy0 hy1 s0 s1 (hpl _) ?_).mono ?_
           (first | exact Below.refl _ _ | exact below_drew (Below.refl _ _) | exact below_alloc (Below.refl _ _) _ | exact below_drew (below_alloc (Below.refl _ _) _))
           (have h2 := HL2.out; (simp only [GSt.emit, GSt.refer, List.length_append, List.length_cons, List.length_nil]; omega))
           rintro e w4 ⟨rfl, hq4⟩
           have hq2 := Aside0.mk hq4; clear hq4))
    have j0 : w4.cell? ⟨w.heap.size, 0, none⟩ = some (.int .u8 7) := (blk_cell (gpost_blk hq2.out HI.out hnI HNI.out) 0).trans rfl
    have j5 : w4.cell? ⟨w.heap.size, 5, none⟩ = some (.string sym) := (blk_cell (gpost_blk hq2.out HI.out hnI HNI.out) 5).trans rfl
    have hl4 := blk_lt (gpost_blk hq2.out HI.out hnI HNI.out)
    go_wp2_with (first
        | (go_at_call 76
           with_reducible refine (shared_post hq2.out ?_ 21 (useReg (rdTwo places y) 15) (useReg (rdTwo places x) 14) 0 0 sym ?_ ?_).mono ?_
           (first | exact Below.refl _ _ | exact below_drew (Below.refl _ _) | exact below_alloc (Below.refl _ _) _ | exact below_drew (below_alloc (Below.refl _ _) _))
           (have h2 := HL2.out; have h3 := HL3.out; (simp only [GSt.emit, GSt.refer, List.length_append, List.length_cons, List.length_nil]; omega))
           (simp only [GSt.emit]; omega)
           rintro e w9 ⟨rfl, hq9⟩
           have hq := Aside0.mk hq9; clear hq9))
    go_end0
    refine ⟨rfl, gpost_code (GPost.pre HBw.out HB2.out hq.out) ?_⟩
    simp [genIns, emit_nil, emit_emit, GSt.refer]
  · -- Bound
    go_wp2_with fail
    go_region_held3 (fun W => W.cell? ⟨w.heap.size, 2, none⟩ = some (.int .i64 x) ∧ W.cell? ⟨w.heap.size, 4, none⟩ = some (.int .i64 imm))
      (first
        | go_keep
        | exact ⟨(blk_cell (gpost_blk hq.out HI.out hnI HNI.out) 2).trans rfl, (blk_cell (gpost_blk hq.out HI.out hnI HNI.out) 4).trans rfl⟩
        | exact ⟨(blk_cell (gpost_blk hq1.out HI.out hnI HNI.out) 2).trans rfl, (blk_cell (gpost_blk hq1.out HI.out hnI HNI.out) 4).trans rfl⟩)
      (first
        | (go_at_call 51
           with_reducible refine (use_post HQ.out ?_ HW2.out Ap cp places x 14 HP.out HPV.out hx0 hx1 s0 s1 (hpl _) ?_).mono ?_
           (first | exact Below.refl _ _ | exact below_drew (Below.refl _ _) | exact below_alloc (Below.refl _ _) _ | exact below_drew (below_alloc (Below.refl _ _) _))
           (omega)
           rintro e w3 ⟨rfl, hq3⟩
           have hq1 := Aside0.mk hq3; clear hq3)
        | (go_at_call 29
           with_reducible refine (emit1_post hq1.out ?_ _ 53 25 (useReg (rdTwo places x) 14) 0 0 imm ?_ ?_).mono ?_
           (first | exact Below.refl _ _ | exact below_drew (Below.refl _ _) | exact below_alloc (Below.refl _ _) _ | exact below_drew (below_alloc (Below.refl _ _) _))
           (first | exact blk_new _ _ | exact blk_drew (blk_new _ _))
           (have h2 := HL2.out; (simp only [GSt.emit, GSt.refer, List.length_append, List.length_cons, List.length_nil]; omega))
           rintro e w9 ⟨rfl, hq9⟩
           have hq := Aside0.mk hq9; clear hq9))
    all_goals (
      go_wp2_with fail
      go_end0
      refine ⟨rfl, gpost_code (GPost.pre HBw.out HB2.out hq.out) ?_⟩
      simp [genIns, emit_nil, emit_emit, GSt.refer])
  · -- Out
    go_wp2_with fail
    go_region_held3 (fun W => W.cell? ⟨w.heap.size, 2, none⟩ = some (.int .i64 x) ∧ W.cell? ⟨w.heap.size, 4, none⟩ = some (.int .i64 imm))
      (first
        | go_keep
        | exact ⟨(blk_cell (gpost_blk hq.out HI.out hnI HNI.out) 2).trans rfl, (blk_cell (gpost_blk hq.out HI.out hnI HNI.out) 4).trans rfl⟩
        | exact ⟨(blk_cell (gpost_blk hq1.out HI.out hnI HNI.out) 2).trans rfl, (blk_cell (gpost_blk hq1.out HI.out hnI HNI.out) 4).trans rfl⟩)
      (first
        | (go_at_call 51
           with_reducible refine (use_post HQ.out ?_ HW2.out Ap cp places x 14 HP.out HPV.out hx0 hx1 s0 s1 (hpl _) ?_).mono ?_
           (first | exact Below.refl _ _ | exact below_drew (Below.refl _ _) | exact below_alloc (Below.refl _ _) _ | exact below_drew (below_alloc (Below.refl _ _) _))
           (omega)
           rintro e w3 ⟨rfl, hq3⟩
           have hq1 := Aside0.mk hq3; clear hq3)
        | (go_at_call 29
           with_reducible refine (emit1_post hq1.out ?_ _ 53 27 (useReg (rdTwo places x) 14) 0 0 imm ?_ ?_).mono ?_
           (first | exact Below.refl _ _ | exact below_drew (Below.refl _ _) | exact below_alloc (Below.refl _ _) _ | exact below_drew (below_alloc (Below.refl _ _) _))
           (first | exact blk_new _ _ | exact blk_drew (blk_new _ _))
           (have h2 := HL2.out; (simp only [GSt.emit, GSt.refer, List.length_append, List.length_cons, List.length_nil]; omega))
           rintro e w9 ⟨rfl, hq9⟩
           have hq := Aside0.mk hq9; clear hq9))
    all_goals (
      go_wp2_with fail
      go_end0
      refine ⟨rfl, gpost_code (GPost.pre HBw.out HB2.out hq.out) ?_⟩
      simp [genIns, emit_nil, emit_emit, GSt.refer])
  · -- Lock
    go_wp2_with (first
        | (go_at_call 76
           with_reducible refine (shared_post HQ.out ?_ 28 0 0 0 0 sym ?_ ?_).mono ?_
           (first | exact Below.refl _ _ | exact below_drew (Below.refl _ _) | exact below_alloc (Below.refl _ _) _ | exact below_drew (below_alloc (Below.refl _ _) _))
           (omega)
           (omega)
           rintro e w9 ⟨rfl, hq9⟩
           have hq := Aside0.mk hq9; clear hq9))
    go_end0
    refine ⟨rfl, gpost_code (GPost.pre HBw.out HB2.out hq.out) ?_⟩
    simp [genIns, emit_nil, emit_emit, GSt.refer]
  · -- Unlock
    go_wp2_with (first
        | (go_at_call 76
           with_reducible refine (shared_post HQ.out ?_ 29 0 0 0 0 sym ?_ ?_).mono ?_
           (first | exact Below.refl _ _ | exact below_drew (Below.refl _ _) | exact below_alloc (Below.refl _ _) _ | exact below_drew (below_alloc (Below.refl _ _) _))
           (omega)
           (omega)
           rintro e w9 ⟨rfl, hq9⟩
           have hq := Aside0.mk hq9; clear hq9))
    go_end0
    refine ⟨rfl, gpost_code (GPost.pre HBw.out HB2.out hq.out) ?_⟩
    simp [genIns, emit_nil, emit_emit, GSt.refer]
  · -- Zero
    have hw10 : IntKind.i64.wrap (10 + imm) = 10 + imm := IntWalk.i64_in _ (by omega)
    go_wp2_with (first
        | (go_at_call 29
           with_reducible refine (emit1_post HQ.out ?_ _ 53 14 (10 + imm) 0 0 0 ?_ ?_).mono ?_
           (first | exact Below.refl _ _ | exact below_drew (Below.refl _ _) | exact below_alloc (Below.refl _ _) _ | exact below_drew (below_alloc (Below.refl _ _) _))
           (first | exact blk_new _ _ | exact blk_drew (blk_new _ _))
           (omega)
           rintro e w9 ⟨rfl, hq9⟩
           have hq := Aside0.mk hq9; clear hq9))
    go_end0
    refine ⟨rfl, gpost_code (GPost.pre HBw.out HB2.out hq.out) ?_⟩
    simp [genIns, emit_nil, emit_emit, GSt.refer]
  · -- Inc
    have hw10 : IntKind.i64.wrap (10 + imm) = 10 + imm := IntWalk.i64_in _ (by omega)
    go_wp2_with (first
        | (go_at_call 29
           with_reducible refine (emit1_post HQ.out ?_ _ 53 15 (10 + imm) (10 + imm) 0 1 ?_ ?_).mono ?_
           (first | exact Below.refl _ _ | exact below_drew (Below.refl _ _) | exact below_alloc (Below.refl _ _) _ | exact below_drew (below_alloc (Below.refl _ _) _))
           (first | exact blk_new _ _ | exact blk_drew (blk_new _ _))
           (omega)
           rintro e w9 ⟨rfl, hq9⟩
           have hq := Aside0.mk hq9; clear hq9))
    go_end0
    refine ⟨rfl, gpost_code (GPost.pre HBw.out HB2.out hq.out) ?_⟩
    simp [genIns, emit_nil, emit_emit, GSt.refer]
  · -- Limit
    have hw10 : IntKind.i64.wrap (10 + x) = 10 + x := IntWalk.i64_in _ (by omega)
    go_wp2_with (first
        | (go_at_call 29
           with_reducible refine (emit1_post HQ.out ?_ _ 53 25 (10 + x) 0 0 imm ?_ ?_).mono ?_
           (first | exact Below.refl _ _ | exact below_drew (Below.refl _ _) | exact below_alloc (Below.refl _ _) _ | exact below_drew (below_alloc (Below.refl _ _) _))
           (first | exact blk_new _ _ | exact blk_drew (blk_new _ _))
           (omega)
           rintro e w9 ⟨rfl, hq9⟩
           have hq := Aside0.mk hq9; clear hq9))
    go_end0
    refine ⟨rfl, gpost_code (GPost.pre HBw.out HB2.out hq.out) ?_⟩
    simp [genIns, emit_nil, emit_emit, GSt.refer]
  · -- a definition
    have HD : Aside0 (defPre places.length ⟨op, dst, x, y, imm, sym⟩) := ⟨hdp⟩
    rcases hdp with rfl | ⟨rfl, -⟩ | ⟨rfl, -⟩ | ⟨rfl, -⟩ | ⟨rfl, -⟩ | rfl | ⟨rfl, -⟩
    all_goals (
      go_wp2_with (first
        | (go_at_call 77
           refine (definition_any w0 g O E st Ap cp places N m ⟨_, dst, x, y, imm, sym⟩ _ (HG.out.below HB2.out) HW2.out HP.out HPV.out HM2.out hmg HNM.out s0 s1 hpl hsz hrz hns ⟨hd0, hd1⟩ HD.out).mono ?_
           rintro e w9 ⟨rfl, hq9⟩
           have hq := Aside0.mk hq9; clear hq9))
      go_end0
      refine ⟨rfl, gpost_code (GPost.pre HBw.out HB2.out hq.out) ?_⟩
      simp [genIns])
end Go.Proofs.Ytadaopfcgpfiiaa
