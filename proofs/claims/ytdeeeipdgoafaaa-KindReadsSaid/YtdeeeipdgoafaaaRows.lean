/-
  No cell of these rows narrows 'for every input' (looked for: loops, veiled, ifaces, maps, wideKeys, modest, calm, conditions, laid).
  DERIVED. THE GIVEN ROWS OF THIS SEAT. 7 by the template 'for every input the law returns true; each argument reads behind the call as it read before'; 0 by the template 'total and deterministic' (their statements: YtdeeeipdgoafaaaTotals.lean).
  GIVEN WITH THE SEED: the statements are not yours to turn. If you find one false, say at which input.
  Laid BY PROGRAM, IN A SANDBOX (cutbox-rows.mjs): the forced cells as the released guide's own fill.sh prints them over the translation 523f15206444d7f2… (all of the seat's roots in one cut). By AI agents, Wed Nov 11 2026. No macro, syntax, notation, axiom, sorry.
-/
import Derived.Test.YtdeeeipdgoafaaaChecked
import GoSem.Claim
import GoSem.ClaimJoined
import GoSem.ClaimMapViews
import Derived.JoinedTies
import Derived.KernelRfl
namespace Go.Proofs.Ytdeeeipdgoafaaa
/- THE CELL 'sum', in the pinned program and in every row, IS THE sha256 OF THE DUMP (.gsa) THAT YtdeeeipdgoafaaaProg.lean LOADS. Nothing in Lean hashes anything: it is a label: what it is worth is what the hold of that sum in a sandbox is worth. -/
noncomputable def Try.pinned : Pinned := { name := "ytdeeeipdgoafaaa", sum := "523f15206444d7f29597f474ce5c776397bef4d0d9e77b3fe381ab4b841ea821", checked := Try.checked }
namespace Rows
def none {H : Type} : Left H := { results := [], args := [] }

/-- 'hayloftlaw09.KindChecks': WHATEVER THE INPUT: true; the input reads as it did. -/
def kindChecksSpec : ChangeSpec := { name := "kindChecks", fn := fun _ => fun
  | [d] => { results := [.lit (.bool true)], args := [d] }
  | _ => none }
def kindChecksRow : OpenClaim := { program := "ytdeeeipdgoafaaa", sum := "523f15206444d7f29597f474ce5c776397bef4d0d9e77b3fe381ab4b841ea821", func := "hayloft/hayloftlaw09.KindChecks", spec := "kindChecks", apart := false }
def KindChecksSaid : Prop := kindChecksRow.holds Try.pinned (OpenSpec.ofChange kindChecksSpec)

/-- ITS FALSE NEIGHBOUR: 'it returns false'. Refute it at one input. -/
def kindChecksWrong : ChangeSpec := { name := "kindChecks", fn := fun _ => fun
  | [d] => { results := [.lit (.bool false)], args := [d] }
  | _ => none }
def KindChecksWrongFalsely : Prop := kindChecksRow.holds Try.pinned (OpenSpec.ofChange kindChecksWrong)

/-- 'hayloftlaw09.KindPlain': WHATEVER THE INPUT: true; the input reads as it did. -/
def kindPlainSpec : ChangeSpec := { name := "kindPlain", fn := fun _ => fun
  | [d1, d2, d3] => { results := [.lit (.bool true)], args := [d1, d2, d3] }
  | _ => none }
def kindPlainRow : OpenClaim := { program := "ytdeeeipdgoafaaa", sum := "523f15206444d7f29597f474ce5c776397bef4d0d9e77b3fe381ab4b841ea821", func := "hayloft/hayloftlaw09.KindPlain", spec := "kindPlain", apart := false }
def KindPlainSaid : Prop := kindPlainRow.holds Try.pinned (OpenSpec.ofChange kindPlainSpec)

/-- ITS FALSE NEIGHBOUR: 'it returns false'. Refute it at one input. -/
def kindPlainWrong : ChangeSpec := { name := "kindPlain", fn := fun _ => fun
  | [d1, d2, d3] => { results := [.lit (.bool false)], args := [d1, d2, d3] }
  | _ => none }
def KindPlainWrongFalsely : Prop := kindPlainRow.holds Try.pinned (OpenSpec.ofChange kindPlainWrong)

/-- 'hayloftlaw09.KindNil': WHATEVER THE INPUT: true; the input reads as it did. -/
def kindNilSpec : ChangeSpec := { name := "kindNil", fn := fun _ => fun
  | [d1, d2] => { results := [.lit (.bool true)], args := [d1, d2] }
  | _ => none }
def kindNilRow : OpenClaim := { program := "ytdeeeipdgoafaaa", sum := "523f15206444d7f29597f474ce5c776397bef4d0d9e77b3fe381ab4b841ea821", func := "hayloft/hayloftlaw09.KindNil", spec := "kindNil", apart := false }
def KindNilSaid : Prop := kindNilRow.holds Try.pinned (OpenSpec.ofChange kindNilSpec)

/-- ITS FALSE NEIGHBOUR: 'it returns false'. Refute it at one input. -/
def kindNilWrong : ChangeSpec := { name := "kindNil", fn := fun _ => fun
  | [d1, d2] => { results := [.lit (.bool false)], args := [d1, d2] }
  | _ => none }
def KindNilWrongFalsely : Prop := kindNilRow.holds Try.pinned (OpenSpec.ofChange kindNilWrong)

/-- 'hayloftlaw09.KindTable': WHATEVER THE INPUT: true; the input reads as it did. -/
def kindTableSpec : ChangeSpec := { name := "kindTable", fn := fun _ => fun
  | [d1, d2] => { results := [.lit (.bool true)], args := [d1, d2] }
  | _ => none }
def kindTableRow : OpenClaim := { program := "ytdeeeipdgoafaaa", sum := "523f15206444d7f29597f474ce5c776397bef4d0d9e77b3fe381ab4b841ea821", func := "hayloft/hayloftlaw09.KindTable", spec := "kindTable", apart := false }
def KindTableSaid : Prop := kindTableRow.holds Try.pinned (OpenSpec.ofChange kindTableSpec)

/-- ITS FALSE NEIGHBOUR: 'it returns false'. Refute it at one input. -/
def kindTableWrong : ChangeSpec := { name := "kindTable", fn := fun _ => fun
  | [d1, d2] => { results := [.lit (.bool false)], args := [d1, d2] }
  | _ => none }
def KindTableWrongFalsely : Prop := kindTableRow.holds Try.pinned (OpenSpec.ofChange kindTableWrong)

/-- 'hayloftlaw09.KindApart': WHATEVER THE INPUT: true; the input reads as it did. -/
def kindApartSpec : ChangeSpec := { name := "kindApart", fn := fun _ => fun
  | [d] => { results := [.lit (.bool true)], args := [d] }
  | _ => none }
def kindApartRow : OpenClaim := { program := "ytdeeeipdgoafaaa", sum := "523f15206444d7f29597f474ce5c776397bef4d0d9e77b3fe381ab4b841ea821", func := "hayloft/hayloftlaw09.KindApart", spec := "kindApart", apart := false }
def KindApartSaid : Prop := kindApartRow.holds Try.pinned (OpenSpec.ofChange kindApartSpec)

/-- ITS FALSE NEIGHBOUR: 'it returns false'. Refute it at one input. -/
def kindApartWrong : ChangeSpec := { name := "kindApart", fn := fun _ => fun
  | [d] => { results := [.lit (.bool false)], args := [d] }
  | _ => none }
def KindApartWrongFalsely : Prop := kindApartRow.holds Try.pinned (OpenSpec.ofChange kindApartWrong)

/-- 'hayloftlaw09.KindWrites': WHATEVER THE INPUT: true; the input reads as it did. -/
def kindWritesSpec : ChangeSpec := { name := "kindWrites", fn := fun _ => fun
  | [d1, d2] => { results := [.lit (.bool true)], args := [d1, d2] }
  | _ => none }
def kindWritesRow : OpenClaim := { program := "ytdeeeipdgoafaaa", sum := "523f15206444d7f29597f474ce5c776397bef4d0d9e77b3fe381ab4b841ea821", func := "hayloft/hayloftlaw09.KindWrites", spec := "kindWrites", apart := false }
def KindWritesSaid : Prop := kindWritesRow.holds Try.pinned (OpenSpec.ofChange kindWritesSpec)

/-- ITS FALSE NEIGHBOUR: 'it returns false'. Refute it at one input. -/
def kindWritesWrong : ChangeSpec := { name := "kindWrites", fn := fun _ => fun
  | [d1, d2] => { results := [.lit (.bool false)], args := [d1, d2] }
  | _ => none }
def KindWritesWrongFalsely : Prop := kindWritesRow.holds Try.pinned (OpenSpec.ofChange kindWritesWrong)

/-- 'hayloftlaw09.KindReads': WHATEVER THE INPUT: true; the input reads as it did. -/
def kindReadsSpec : ChangeSpec := { name := "kindReads", fn := fun _ => fun
  | [d] => { results := [.lit (.bool true)], args := [d] }
  | _ => none }
def kindReadsRow : OpenClaim := { program := "ytdeeeipdgoafaaa", sum := "523f15206444d7f29597f474ce5c776397bef4d0d9e77b3fe381ab4b841ea821", func := "hayloft/hayloftlaw09.KindReads", spec := "kindReads", apart := false }
def KindReadsSaid : Prop := kindReadsRow.holds Try.pinned (OpenSpec.ofChange kindReadsSpec)

/-- ITS FALSE NEIGHBOUR: 'it returns false'. Refute it at one input. -/
def kindReadsWrong : ChangeSpec := { name := "kindReads", fn := fun _ => fun
  | [d] => { results := [.lit (.bool false)], args := [d] }
  | _ => none }
def KindReadsWrongFalsely : Prop := kindReadsRow.holds Try.pinned (OpenSpec.ofChange kindReadsWrong)

/- THE SECOND FORM. 'bulk': how many values and letters a reading holds, each counted each time it is reached (what is shared counts as often as it is met; a slice's spare places count too). A statement '..UptoSaid' is the law's where the arguments, and the package variables that the reading takes, are together of bulk at most 1048576: NARROWER than '..Said'. Prove '..Said' where nothing that the law and all that it calls make is longer than what came in: it says more and counts as full. Else prove '..UptoSaid'. A law counts once. -/
mutual
def uptoBulk {H : Type} : DataW H → Nat
  | .lit (.string bytes) => bytes.length + 1
  | .lit _ => 1
  | .nil => 1
  | .ptr d => uptoBulk d + 1
  | .slice elems spare => uptoBulkAll elems + uptoBulkAll spare + 1
  | .agg parts => uptoBulkAll parts + 1
  | .iface _ d => uptoBulk d + 1
  | .map entries => uptoBulkEntries entries + 1
  | .held _ => 1
def uptoBulkAll {H : Type} : List (DataW H) → Nat
  | [] => 0
  | d :: r => uptoBulk d + uptoBulkAll r
def uptoBulkEntries {H : Type} : List (Lit × DataW H) → Nat
  | [] => 0
  | x :: r => uptoBulkEntry x + uptoBulkEntries r
def uptoBulkEntry {H : Type} : Lit × DataW H → Nat
  | (.string bytes, d) => bytes.length + uptoBulk d + 1
  | (_, d) => uptoBulk d + 1
 end
def uptoSmall : (H : Type) → List (DataW H) → Bool := fun _ ds => decide (uptoBulkAll ds ≤ 1048576)
def OpenSpec.upto (s : _root_.Go.ChangeSpec) : _root_.Go.OpenSpec := { _root_.Go.OpenSpec.ofChange s with cond := some uptoSmall }

/-- 'hayloftlaw09.KindChecks', WHERE WHAT IT READS IS OF BULK AT MOST 1048576: true; the input reads as it did. -/
def kindChecksUptoRow : OpenClaim := { program := "ytdeeeipdgoafaaa", sum := "523f15206444d7f29597f474ce5c776397bef4d0d9e77b3fe381ab4b841ea821", func := "hayloft/hayloftlaw09.KindChecks", spec := "kindChecks", apart := false, narrowed := true }
def KindChecksUptoSaid : Prop := kindChecksUptoRow.holds Try.pinned (OpenSpec.upto kindChecksSpec)

/-- 'hayloftlaw09.KindPlain', WHERE WHAT IT READS IS OF BULK AT MOST 1048576: true; the input reads as it did. -/
def kindPlainUptoRow : OpenClaim := { program := "ytdeeeipdgoafaaa", sum := "523f15206444d7f29597f474ce5c776397bef4d0d9e77b3fe381ab4b841ea821", func := "hayloft/hayloftlaw09.KindPlain", spec := "kindPlain", apart := false, narrowed := true }
def KindPlainUptoSaid : Prop := kindPlainUptoRow.holds Try.pinned (OpenSpec.upto kindPlainSpec)

/-- 'hayloftlaw09.KindNil', WHERE WHAT IT READS IS OF BULK AT MOST 1048576: true; the input reads as it did. -/
def kindNilUptoRow : OpenClaim := { program := "ytdeeeipdgoafaaa", sum := "523f15206444d7f29597f474ce5c776397bef4d0d9e77b3fe381ab4b841ea821", func := "hayloft/hayloftlaw09.KindNil", spec := "kindNil", apart := false, narrowed := true }
def KindNilUptoSaid : Prop := kindNilUptoRow.holds Try.pinned (OpenSpec.upto kindNilSpec)

/-- 'hayloftlaw09.KindTable', WHERE WHAT IT READS IS OF BULK AT MOST 1048576: true; the input reads as it did. -/
def kindTableUptoRow : OpenClaim := { program := "ytdeeeipdgoafaaa", sum := "523f15206444d7f29597f474ce5c776397bef4d0d9e77b3fe381ab4b841ea821", func := "hayloft/hayloftlaw09.KindTable", spec := "kindTable", apart := false, narrowed := true }
def KindTableUptoSaid : Prop := kindTableUptoRow.holds Try.pinned (OpenSpec.upto kindTableSpec)

/-- 'hayloftlaw09.KindApart', WHERE WHAT IT READS IS OF BULK AT MOST 1048576: true; the input reads as it did. -/
def kindApartUptoRow : OpenClaim := { program := "ytdeeeipdgoafaaa", sum := "523f15206444d7f29597f474ce5c776397bef4d0d9e77b3fe381ab4b841ea821", func := "hayloft/hayloftlaw09.KindApart", spec := "kindApart", apart := false, narrowed := true }
def KindApartUptoSaid : Prop := kindApartUptoRow.holds Try.pinned (OpenSpec.upto kindApartSpec)

/-- 'hayloftlaw09.KindWrites', WHERE WHAT IT READS IS OF BULK AT MOST 1048576: true; the input reads as it did. -/
def kindWritesUptoRow : OpenClaim := { program := "ytdeeeipdgoafaaa", sum := "523f15206444d7f29597f474ce5c776397bef4d0d9e77b3fe381ab4b841ea821", func := "hayloft/hayloftlaw09.KindWrites", spec := "kindWrites", apart := false, narrowed := true }
def KindWritesUptoSaid : Prop := kindWritesUptoRow.holds Try.pinned (OpenSpec.upto kindWritesSpec)

/-- 'hayloftlaw09.KindReads', WHERE WHAT IT READS IS OF BULK AT MOST 1048576: true; the input reads as it did. -/
def kindReadsUptoRow : OpenClaim := { program := "ytdeeeipdgoafaaa", sum := "523f15206444d7f29597f474ce5c776397bef4d0d9e77b3fe381ab4b841ea821", func := "hayloft/hayloftlaw09.KindReads", spec := "kindReads", apart := false, narrowed := true }
def KindReadsUptoSaid : Prop := kindReadsUptoRow.holds Try.pinned (OpenSpec.upto kindReadsSpec)

end Rows
end Go.Proofs.Ytdeeeipdgoafaaa
