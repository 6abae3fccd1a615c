/-
  No cell of these rows narrows 'for every input' (looked for: loops, veiled, ifaces, maps, wideKeys, modest, calm, conditions, laid).
  DERIVED. THE GIVEN ROWS OF THIS SEAT. 7 by the template 'for every input the law returns true; each argument reads behind the call as it read before'; 0 by the template 'total and deterministic' (their statements: YtadaopfcgpfiiaaTotals.lean).
  GIVEN WITH THE SEED: the statements are not yours to turn. If you find one false, say at which input.
  Laid BY PROGRAM, IN A SANDBOX (cutbox-rows.mjs): the forced cells as the released guide's own fill.sh prints them over the translation 8ca19d8a21b67d12… (all of the seat's roots in one cut). By AI agents, Wed Nov 11 2026. No macro, syntax, notation, axiom, sorry.
-/
import Derived.Test.YtadaopfcgpfiiaaChecked
import GoSem.Claim
import GoSem.ClaimJoined
import GoSem.ClaimMapViews
import Derived.JoinedTies
import Derived.KernelRfl
namespace Go.Proofs.Ytadaopfcgpfiiaa
/- THE CELL 'sum', in the pinned program and in every row, IS THE sha256 OF THE DUMP (.gsa) THAT YtadaopfcgpfiiaaProg.lean LOADS. Nothing in Lean hashes anything: it is a label: what it is worth is what the hold of that sum in a sandbox is worth. -/
noncomputable def Try.pinned : Pinned := { name := "ytadaopfcgpfiiaa", sum := "8ca19d8a21b67d12c86cebddd8687a48641b22fd7410d3b46684e9e6ad4c6410", checked := Try.checked }
namespace Rows
def none {H : Type} : Left H := { results := [], args := [] }

/-- 'ontimelaw21.CodegenValid': WHATEVER THE INPUT: true; the input reads as it did. -/
def codegenValidSpec : ChangeSpec := { name := "codegenValid", fn := fun _ => fun
  | [d1, d2] => { results := [.lit (.bool true)], args := [d1, d2] }
  | _ => none }
def codegenValidRow : OpenClaim := { program := "ytadaopfcgpfiiaa", sum := "8ca19d8a21b67d12c86cebddd8687a48641b22fd7410d3b46684e9e6ad4c6410", func := "ontime/ontimelaw21.CodegenValid", spec := "codegenValid", unfollowed := true, recurses := true, plainKeys := false, apart := false }
def CodegenValidSaid : Prop := codegenValidRow.holds Try.pinned (OpenSpec.ofChange codegenValidSpec)

/-- ITS FALSE NEIGHBOUR: 'it returns false'. Refute it at one input. -/
def codegenValidWrong : ChangeSpec := { name := "codegenValid", fn := fun _ => fun
  | [d1, d2] => { results := [.lit (.bool false)], args := [d1, d2] }
  | _ => none }
def CodegenValidWrongFalsely : Prop := codegenValidRow.holds Try.pinned (OpenSpec.ofChange codegenValidWrong)

/-- 'ontimelaw21.CodegenTells': WHATEVER THE INPUT: true; the input reads as it did. -/
def codegenTellsSpec : ChangeSpec := { name := "codegenTells", fn := fun _ => fun
  | [d] => { results := [.lit (.bool true)], args := [d] }
  | _ => none }
def codegenTellsRow : OpenClaim := { program := "ytadaopfcgpfiiaa", sum := "8ca19d8a21b67d12c86cebddd8687a48641b22fd7410d3b46684e9e6ad4c6410", func := "ontime/ontimelaw21.CodegenTells", spec := "codegenTells", unfollowed := true, recurses := true, plainKeys := false, apart := false }
def CodegenTellsSaid : Prop := codegenTellsRow.holds Try.pinned (OpenSpec.ofChange codegenTellsSpec)

/-- ITS FALSE NEIGHBOUR: 'it returns false'. Refute it at one input. -/
def codegenTellsWrong : ChangeSpec := { name := "codegenTells", fn := fun _ => fun
  | [d] => { results := [.lit (.bool false)], args := [d] }
  | _ => none }
def CodegenTellsWrongFalsely : Prop := codegenTellsRow.holds Try.pinned (OpenSpec.ofChange codegenTellsWrong)

/-- 'ontimelaw21.CodegenLayout': WHATEVER THE INPUT: true; the input reads as it did. -/
def codegenLayoutSpec : ChangeSpec := { name := "codegenLayout", fn := fun _ => fun
  | [d] => { results := [.lit (.bool true)], args := [d] }
  | _ => none }
def codegenLayoutRow : OpenClaim := { program := "ytadaopfcgpfiiaa", sum := "8ca19d8a21b67d12c86cebddd8687a48641b22fd7410d3b46684e9e6ad4c6410", func := "ontime/ontimelaw21.CodegenLayout", spec := "codegenLayout", unfollowed := true, recurses := true, plainKeys := false, apart := false }
def CodegenLayoutSaid : Prop := codegenLayoutRow.holds Try.pinned (OpenSpec.ofChange codegenLayoutSpec)

/-- ITS FALSE NEIGHBOUR: 'it returns false'. Refute it at one input. -/
def codegenLayoutWrong : ChangeSpec := { name := "codegenLayout", fn := fun _ => fun
  | [d] => { results := [.lit (.bool false)], args := [d] }
  | _ => none }
def CodegenLayoutWrongFalsely : Prop := codegenLayoutRow.holds Try.pinned (OpenSpec.ofChange codegenLayoutWrong)

/-- 'ontimelaw21.CodegenCounts': WHATEVER THE INPUT: true; the input reads as it did. -/
def codegenCountsSpec : ChangeSpec := { name := "codegenCounts", fn := fun _ => fun
  | [d1, d2] => { results := [.lit (.bool true)], args := [d1, d2] }
  | _ => none }
def codegenCountsRow : OpenClaim := { program := "ytadaopfcgpfiiaa", sum := "8ca19d8a21b67d12c86cebddd8687a48641b22fd7410d3b46684e9e6ad4c6410", func := "ontime/ontimelaw21.CodegenCounts", spec := "codegenCounts", unfollowed := true, recurses := true, plainKeys := false, apart := false }
def CodegenCountsSaid : Prop := codegenCountsRow.holds Try.pinned (OpenSpec.ofChange codegenCountsSpec)

/-- ITS FALSE NEIGHBOUR: 'it returns false'. Refute it at one input. -/
def codegenCountsWrong : ChangeSpec := { name := "codegenCounts", fn := fun _ => fun
  | [d1, d2] => { results := [.lit (.bool false)], args := [d1, d2] }
  | _ => none }
def CodegenCountsWrongFalsely : Prop := codegenCountsRow.holds Try.pinned (OpenSpec.ofChange codegenCountsWrong)

/-- 'ontimelaw21.CodegenErrors': WHATEVER THE INPUT: true; the input reads as it did. -/
def codegenErrorsSpec : ChangeSpec := { name := "codegenErrors", fn := fun _ => fun
  | [d] => { results := [.lit (.bool true)], args := [d] }
  | _ => none }
def codegenErrorsRow : OpenClaim := { program := "ytadaopfcgpfiiaa", sum := "8ca19d8a21b67d12c86cebddd8687a48641b22fd7410d3b46684e9e6ad4c6410", func := "ontime/ontimelaw21.CodegenErrors", spec := "codegenErrors", unfollowed := true, recurses := true, plainKeys := false, apart := false }
def CodegenErrorsSaid : Prop := codegenErrorsRow.holds Try.pinned (OpenSpec.ofChange codegenErrorsSpec)

/-- ITS FALSE NEIGHBOUR: 'it returns false'. Refute it at one input. -/
def codegenErrorsWrong : ChangeSpec := { name := "codegenErrors", fn := fun _ => fun
  | [d] => { results := [.lit (.bool false)], args := [d] }
  | _ => none }
def CodegenErrorsWrongFalsely : Prop := codegenErrorsRow.holds Try.pinned (OpenSpec.ofChange codegenErrorsWrong)

/-- 'ontimelaw21.CodegenCounters': WHATEVER THE INPUT: true; the input reads as it did. -/
def codegenCountersSpec : ChangeSpec := { name := "codegenCounters", fn := fun _ => fun
  | [d1, d2] => { results := [.lit (.bool true)], args := [d1, d2] }
  | _ => none }
def codegenCountersRow : OpenClaim := { program := "ytadaopfcgpfiiaa", sum := "8ca19d8a21b67d12c86cebddd8687a48641b22fd7410d3b46684e9e6ad4c6410", func := "ontime/ontimelaw21.CodegenCounters", spec := "codegenCounters", unfollowed := true, recurses := true, plainKeys := false, apart := false }
def CodegenCountersSaid : Prop := codegenCountersRow.holds Try.pinned (OpenSpec.ofChange codegenCountersSpec)

/-- ITS FALSE NEIGHBOUR: 'it returns false'. Refute it at one input. -/
def codegenCountersWrong : ChangeSpec := { name := "codegenCounters", fn := fun _ => fun
  | [d1, d2] => { results := [.lit (.bool false)], args := [d1, d2] }
  | _ => none }
def CodegenCountersWrongFalsely : Prop := codegenCountersRow.holds Try.pinned (OpenSpec.ofChange codegenCountersWrong)

/-- 'ontimelaw21.CodegenConstant': WHATEVER THE INPUT: true; the input reads as it did. -/
def codegenConstantSpec : ChangeSpec := { name := "codegenConstant", fn := fun _ => fun
  | [d1, d2] => { results := [.lit (.bool true)], args := [d1, d2] }
  | _ => none }
def codegenConstantRow : OpenClaim := { program := "ytadaopfcgpfiiaa", sum := "8ca19d8a21b67d12c86cebddd8687a48641b22fd7410d3b46684e9e6ad4c6410", func := "ontime/ontimelaw21.CodegenConstant", spec := "codegenConstant", unfollowed := true, recurses := true, plainKeys := false, apart := false }
def CodegenConstantSaid : Prop := codegenConstantRow.holds Try.pinned (OpenSpec.ofChange codegenConstantSpec)

/-- ITS FALSE NEIGHBOUR: 'it returns false'. Refute it at one input. -/
def codegenConstantWrong : ChangeSpec := { name := "codegenConstant", fn := fun _ => fun
  | [d1, d2] => { results := [.lit (.bool false)], args := [d1, d2] }
  | _ => none }
def CodegenConstantWrongFalsely : Prop := codegenConstantRow.holds Try.pinned (OpenSpec.ofChange codegenConstantWrong)

/- THE SECOND FORM. 'bulk': how many values and letters a reading holds, each counted each time it is reached (what is shared counts as often as it is met; a slice's spare places count too). A statement '..UptoSaid' is the law's where the arguments, and the package variables that the reading takes, are together of bulk at most 1048576: NARROWER than '..Said'. Prove '..Said' where nothing that the law and all that it calls make is longer than what came in: it says more and counts as full. Else prove '..UptoSaid'. A law counts once. -/
mutual
def uptoBulk {H : Type} : DataW H → Nat
  | .lit (.string bytes) => bytes.length + 1
  | .lit _ => 1
  | .nil => 1
  | .ptr d => uptoBulk d + 1
  | .slice elems spare => uptoBulkAll elems + uptoBulkAll spare + 1
  | .agg parts => uptoBulkAll parts + 1
  | .iface _ d => uptoBulk d + 1
  | .map entries => uptoBulkEntries entries + 1
  | .held _ => 1
def uptoBulkAll {H : Type} : List (DataW H) → Nat
  | [] => 0
  | d :: r => uptoBulk d + uptoBulkAll r
def uptoBulkEntries {H : Type} : List (Lit × DataW H) → Nat
  | [] => 0
  | x :: r => uptoBulkEntry x + uptoBulkEntries r
def uptoBulkEntry {H : Type} : Lit × DataW H → Nat
  | (.string bytes, d) => bytes.length + uptoBulk d + 1
  | (_, d) => uptoBulk d + 1
 end
def uptoSmall : (H : Type) → List (DataW H) → Bool := fun _ ds => decide (uptoBulkAll ds ≤ 1048576)
def OpenSpec.upto (s : _root_.Go.ChangeSpec) : _root_.Go.OpenSpec := { _root_.Go.OpenSpec.ofChange s with cond := some uptoSmall }

/-- 'ontimelaw21.CodegenValid', WHERE WHAT IT READS IS OF BULK AT MOST 1048576: true; the input reads as it did. -/
def codegenValidUptoRow : OpenClaim := { program := "ytadaopfcgpfiiaa", sum := "8ca19d8a21b67d12c86cebddd8687a48641b22fd7410d3b46684e9e6ad4c6410", func := "ontime/ontimelaw21.CodegenValid", spec := "codegenValid", unfollowed := true, recurses := true, plainKeys := false, apart := false, narrowed := true }
def CodegenValidUptoSaid : Prop := codegenValidUptoRow.holds Try.pinned (OpenSpec.upto codegenValidSpec)

/-- 'ontimelaw21.CodegenTells', WHERE WHAT IT READS IS OF BULK AT MOST 1048576: true; the input reads as it did. -/
def codegenTellsUptoRow : OpenClaim := { program := "ytadaopfcgpfiiaa", sum := "8ca19d8a21b67d12c86cebddd8687a48641b22fd7410d3b46684e9e6ad4c6410", func := "ontime/ontimelaw21.CodegenTells", spec := "codegenTells", unfollowed := true, recurses := true, plainKeys := false, apart := false, narrowed := true }
def CodegenTellsUptoSaid : Prop := codegenTellsUptoRow.holds Try.pinned (OpenSpec.upto codegenTellsSpec)

/-- 'ontimelaw21.CodegenLayout', WHERE WHAT IT READS IS OF BULK AT MOST 1048576: true; the input reads as it did. -/
def codegenLayoutUptoRow : OpenClaim := { program := "ytadaopfcgpfiiaa", sum := "8ca19d8a21b67d12c86cebddd8687a48641b22fd7410d3b46684e9e6ad4c6410", func := "ontime/ontimelaw21.CodegenLayout", spec := "codegenLayout", unfollowed := true, recurses := true, plainKeys := false, apart := false, narrowed := true }
def CodegenLayoutUptoSaid : Prop := codegenLayoutUptoRow.holds Try.pinned (OpenSpec.upto codegenLayoutSpec)

/-- 'ontimelaw21.CodegenCounts', WHERE WHAT IT READS IS OF BULK AT MOST 1048576: true; the input reads as it did. -/
def codegenCountsUptoRow : OpenClaim := { program := "ytadaopfcgpfiiaa", sum := "8ca19d8a21b67d12c86cebddd8687a48641b22fd7410d3b46684e9e6ad4c6410", func := "ontime/ontimelaw21.CodegenCounts", spec := "codegenCounts", unfollowed := true, recurses := true, plainKeys := false, apart := false, narrowed := true }
def CodegenCountsUptoSaid : Prop := codegenCountsUptoRow.holds Try.pinned (OpenSpec.upto codegenCountsSpec)

/-- 'ontimelaw21.CodegenErrors', WHERE WHAT IT READS IS OF BULK AT MOST 1048576: true; the input reads as it did. -/
def codegenErrorsUptoRow : OpenClaim := { program := "ytadaopfcgpfiiaa", sum := "8ca19d8a21b67d12c86cebddd8687a48641b22fd7410d3b46684e9e6ad4c6410", func := "ontime/ontimelaw21.CodegenErrors", spec := "codegenErrors", unfollowed := true, recurses := true, plainKeys := false, apart := false, narrowed := true }
def CodegenErrorsUptoSaid : Prop := codegenErrorsUptoRow.holds Try.pinned (OpenSpec.upto codegenErrorsSpec)

/-- 'ontimelaw21.CodegenCounters', WHERE WHAT IT READS IS OF BULK AT MOST 1048576: true; the input reads as it did. -/
def codegenCountersUptoRow : OpenClaim := { program := "ytadaopfcgpfiiaa", sum := "8ca19d8a21b67d12c86cebddd8687a48641b22fd7410d3b46684e9e6ad4c6410", func := "ontime/ontimelaw21.CodegenCounters", spec := "codegenCounters", unfollowed := true, recurses := true, plainKeys := false, apart := false, narrowed := true }
def CodegenCountersUptoSaid : Prop := codegenCountersUptoRow.holds Try.pinned (OpenSpec.upto codegenCountersSpec)

/-- 'ontimelaw21.CodegenConstant', WHERE WHAT IT READS IS OF BULK AT MOST 1048576: true; the input reads as it did. -/
def codegenConstantUptoRow : OpenClaim := { program := "ytadaopfcgpfiiaa", sum := "8ca19d8a21b67d12c86cebddd8687a48641b22fd7410d3b46684e9e6ad4c6410", func := "ontime/ontimelaw21.CodegenConstant", spec := "codegenConstant", unfollowed := true, recurses := true, plainKeys := false, apart := false, narrowed := true }
def CodegenConstantUptoSaid : Prop := codegenConstantUptoRow.holds Try.pinned (OpenSpec.upto codegenConstantSpec)

end Rows
end Go.Proofs.Ytadaopfcgpfiiaa
