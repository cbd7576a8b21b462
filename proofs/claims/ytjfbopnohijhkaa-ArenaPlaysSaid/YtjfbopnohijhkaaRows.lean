/-
  No cell of these rows narrows 'for every input' (looked for: loops, veiled, ifaces, maps, wideKeys, modest, calm, conditions, laid).
  DERIVED. THE GIVEN ROWS OF THIS SEAT. 7 by the template 'for every input the law returns true; each argument reads behind the call as it read before'; 0 by the template 'total and deterministic' (their statements: YtjfbopnohijhkaaTotals.lean).
  GIVEN WITH THE SEED: the statements are not yours to turn. If you find one false, say at which input.
  Laid BY PROGRAM, IN A SANDBOX (cutbox-rows.mjs): the forced cells as the released guide's own fill.sh prints them over the translation e2370749c3ff9770… (all of the seat's roots in one cut). By AI agents, Wed Nov 11 2026. No macro, syntax, notation, axiom, sorry.
-/
import Derived.Test.YtjfbopnohijhkaaChecked
import GoSem.Claim
import GoSem.ClaimJoined
import GoSem.ClaimMapViews
import Derived.JoinedTies
import Derived.KernelRfl
namespace Go.Proofs.Ytjfbopnohijhkaa
/- THE CELL 'sum', in the pinned program and in every row, IS THE sha256 OF THE DUMP (.gsa) THAT YtjfbopnohijhkaaProg.lean LOADS. Nothing in Lean hashes anything: it is a label: what it is worth is what the hold of that sum in a sandbox is worth. -/
noncomputable def Try.pinned : Pinned := { name := "ytjfbopnohijhkaa", sum := "e2370749c3ff9770211712192fa1f13a1808d3a61cc55f30cf5b51b8c0a3d89b", checked := Try.checked }
namespace Rows
def none {H : Type} : Left H := { results := [], args := [] }

/-- 'hayloftlaw08.ArenaIn': WHATEVER THE INPUT: true; the input reads as it did. -/
def arenaInSpec : ChangeSpec := { name := "arenaIn", fn := fun _ => fun
  | [d1, d2, d3] => { results := [.lit (.bool true)], args := [d1, d2, d3] }
  | _ => none }
def arenaInRow : OpenClaim := { program := "ytjfbopnohijhkaa", sum := "e2370749c3ff9770211712192fa1f13a1808d3a61cc55f30cf5b51b8c0a3d89b", func := "hayloft/hayloftlaw08.ArenaIn", spec := "arenaIn", apart := false }
def ArenaInSaid : Prop := arenaInRow.holds Try.pinned (OpenSpec.ofChange arenaInSpec)

/-- ITS FALSE NEIGHBOUR: 'it returns false'. Refute it at one input. -/
def arenaInWrong : ChangeSpec := { name := "arenaIn", fn := fun _ => fun
  | [d1, d2, d3] => { results := [.lit (.bool false)], args := [d1, d2, d3] }
  | _ => none }
def ArenaInWrongFalsely : Prop := arenaInRow.holds Try.pinned (OpenSpec.ofChange arenaInWrong)

/-- 'hayloftlaw08.ArenaMakes': WHATEVER THE INPUT: true; the input reads as it did. -/
def arenaMakesSpec : ChangeSpec := { name := "arenaMakes", fn := fun _ => fun
  | [d1, d2] => { results := [.lit (.bool true)], args := [d1, d2] }
  | _ => none }
def arenaMakesRow : OpenClaim := { program := "ytjfbopnohijhkaa", sum := "e2370749c3ff9770211712192fa1f13a1808d3a61cc55f30cf5b51b8c0a3d89b", func := "hayloft/hayloftlaw08.ArenaMakes", spec := "arenaMakes", apart := false }
def ArenaMakesSaid : Prop := arenaMakesRow.holds Try.pinned (OpenSpec.ofChange arenaMakesSpec)

/-- ITS FALSE NEIGHBOUR: 'it returns false'. Refute it at one input. -/
def arenaMakesWrong : ChangeSpec := { name := "arenaMakes", fn := fun _ => fun
  | [d1, d2] => { results := [.lit (.bool false)], args := [d1, d2] }
  | _ => none }
def ArenaMakesWrongFalsely : Prop := arenaMakesRow.holds Try.pinned (OpenSpec.ofChange arenaMakesWrong)

/-- 'hayloftlaw08.ArenaMoves': WHATEVER THE INPUT: true; the input reads as it did. -/
def arenaMovesSpec : ChangeSpec := { name := "arenaMoves", fn := fun _ => fun
  | [d1, d2] => { results := [.lit (.bool true)], args := [d1, d2] }
  | _ => none }
def arenaMovesRow : OpenClaim := { program := "ytjfbopnohijhkaa", sum := "e2370749c3ff9770211712192fa1f13a1808d3a61cc55f30cf5b51b8c0a3d89b", func := "hayloft/hayloftlaw08.ArenaMoves", spec := "arenaMoves", apart := false }
def ArenaMovesSaid : Prop := arenaMovesRow.holds Try.pinned (OpenSpec.ofChange arenaMovesSpec)

/-- ITS FALSE NEIGHBOUR: 'it returns false'. Refute it at one input. -/
def arenaMovesWrong : ChangeSpec := { name := "arenaMoves", fn := fun _ => fun
  | [d1, d2] => { results := [.lit (.bool false)], args := [d1, d2] }
  | _ => none }
def ArenaMovesWrongFalsely : Prop := arenaMovesRow.holds Try.pinned (OpenSpec.ofChange arenaMovesWrong)

/-- 'hayloftlaw08.ArenaPlaces': WHATEVER THE INPUT: true; the input reads as it did. -/
def arenaPlacesSpec : ChangeSpec := { name := "arenaPlaces", fn := fun _ => fun
  | [d1, d2, d3] => { results := [.lit (.bool true)], args := [d1, d2, d3] }
  | _ => none }
def arenaPlacesRow : OpenClaim := { program := "ytjfbopnohijhkaa", sum := "e2370749c3ff9770211712192fa1f13a1808d3a61cc55f30cf5b51b8c0a3d89b", func := "hayloft/hayloftlaw08.ArenaPlaces", spec := "arenaPlaces", apart := false }
def ArenaPlacesSaid : Prop := arenaPlacesRow.holds Try.pinned (OpenSpec.ofChange arenaPlacesSpec)

/-- ITS FALSE NEIGHBOUR: 'it returns false'. Refute it at one input. -/
def arenaPlacesWrong : ChangeSpec := { name := "arenaPlaces", fn := fun _ => fun
  | [d1, d2, d3] => { results := [.lit (.bool false)], args := [d1, d2, d3] }
  | _ => none }
def ArenaPlacesWrongFalsely : Prop := arenaPlacesRow.holds Try.pinned (OpenSpec.ofChange arenaPlacesWrong)

/-- 'hayloftlaw08.ArenaPlays': WHATEVER THE INPUT: true; the input reads as it did. -/
def arenaPlaysSpec : ChangeSpec := { name := "arenaPlays", fn := fun _ => fun
  | [d1, d2, d3] => { results := [.lit (.bool true)], args := [d1, d2, d3] }
  | _ => none }
def arenaPlaysRow : OpenClaim := { program := "ytjfbopnohijhkaa", sum := "e2370749c3ff9770211712192fa1f13a1808d3a61cc55f30cf5b51b8c0a3d89b", func := "hayloft/hayloftlaw08.ArenaPlays", spec := "arenaPlays", apart := false }
def ArenaPlaysSaid : Prop := arenaPlaysRow.holds Try.pinned (OpenSpec.ofChange arenaPlaysSpec)

/-- ITS FALSE NEIGHBOUR: 'it returns false'. Refute it at one input. -/
def arenaPlaysWrong : ChangeSpec := { name := "arenaPlays", fn := fun _ => fun
  | [d1, d2, d3] => { results := [.lit (.bool false)], args := [d1, d2, d3] }
  | _ => none }
def ArenaPlaysWrongFalsely : Prop := arenaPlaysRow.holds Try.pinned (OpenSpec.ofChange arenaPlaysWrong)

/-- 'hayloftlaw08.ArenaBases': WHATEVER THE INPUT: true; the input reads as it did. -/
def arenaBasesSpec : ChangeSpec := { name := "arenaBases", fn := fun _ => fun
  | [d1, d2, d3] => { results := [.lit (.bool true)], args := [d1, d2, d3] }
  | _ => none }
def arenaBasesRow : OpenClaim := { program := "ytjfbopnohijhkaa", sum := "e2370749c3ff9770211712192fa1f13a1808d3a61cc55f30cf5b51b8c0a3d89b", func := "hayloft/hayloftlaw08.ArenaBases", spec := "arenaBases", apart := false }
def ArenaBasesSaid : Prop := arenaBasesRow.holds Try.pinned (OpenSpec.ofChange arenaBasesSpec)

/-- ITS FALSE NEIGHBOUR: 'it returns false'. Refute it at one input. -/
def arenaBasesWrong : ChangeSpec := { name := "arenaBases", fn := fun _ => fun
  | [d1, d2, d3] => { results := [.lit (.bool false)], args := [d1, d2, d3] }
  | _ => none }
def ArenaBasesWrongFalsely : Prop := arenaBasesRow.holds Try.pinned (OpenSpec.ofChange arenaBasesWrong)

/-- 'hayloftlaw08.ArenaNil': WHATEVER THE INPUT: true; the input reads as it did. -/
def arenaNilSpec : ChangeSpec := { name := "arenaNil", fn := fun _ => fun
  | [d] => { results := [.lit (.bool true)], args := [d] }
  | _ => none }
def arenaNilRow : OpenClaim := { program := "ytjfbopnohijhkaa", sum := "e2370749c3ff9770211712192fa1f13a1808d3a61cc55f30cf5b51b8c0a3d89b", func := "hayloft/hayloftlaw08.ArenaNil", spec := "arenaNil", apart := false }
def ArenaNilSaid : Prop := arenaNilRow.holds Try.pinned (OpenSpec.ofChange arenaNilSpec)

/-- ITS FALSE NEIGHBOUR: 'it returns false'. Refute it at one input. -/
def arenaNilWrong : ChangeSpec := { name := "arenaNil", fn := fun _ => fun
  | [d] => { results := [.lit (.bool false)], args := [d] }
  | _ => none }
def ArenaNilWrongFalsely : Prop := arenaNilRow.holds Try.pinned (OpenSpec.ofChange arenaNilWrong)

/- THE SECOND FORM. 'bulk': how many values and letters a reading holds, each counted each time it is reached (what is shared counts as often as it is met; a slice's spare places count too). A statement '..UptoSaid' is the law's where the arguments, and the package variables that the reading takes, are together of bulk at most 1048576: NARROWER than '..Said'. Prove '..Said' where nothing that the law and all that it calls make is longer than what came in: it says more and counts as full. Else prove '..UptoSaid'. A law counts once. -/
mutual
def uptoBulk {H : Type} : DataW H → Nat
  | .lit (.string bytes) => bytes.length + 1
  | .lit _ => 1
  | .nil => 1
  | .ptr d => uptoBulk d + 1
  | .slice elems spare => uptoBulkAll elems + uptoBulkAll spare + 1
  | .agg parts => uptoBulkAll parts + 1
  | .iface _ d => uptoBulk d + 1
  | .map entries => uptoBulkEntries entries + 1
  | .held _ => 1
def uptoBulkAll {H : Type} : List (DataW H) → Nat
  | [] => 0
  | d :: r => uptoBulk d + uptoBulkAll r
def uptoBulkEntries {H : Type} : List (Lit × DataW H) → Nat
  | [] => 0
  | x :: r => uptoBulkEntry x + uptoBulkEntries r
def uptoBulkEntry {H : Type} : Lit × DataW H → Nat
  | (.string bytes, d) => bytes.length + uptoBulk d + 1
  | (_, d) => uptoBulk d + 1
 end
def uptoSmall : (H : Type) → List (DataW H) → Bool := fun _ ds => decide (uptoBulkAll ds ≤ 1048576)
def OpenSpec.upto (s : _root_.Go.ChangeSpec) : _root_.Go.OpenSpec := { _root_.Go.OpenSpec.ofChange s with cond := some uptoSmall }

/-- 'hayloftlaw08.ArenaIn', WHERE WHAT IT READS IS OF BULK AT MOST 1048576: true; the input reads as it did. -/
def arenaInUptoRow : OpenClaim := { program := "ytjfbopnohijhkaa", sum := "e2370749c3ff9770211712192fa1f13a1808d3a61cc55f30cf5b51b8c0a3d89b", func := "hayloft/hayloftlaw08.ArenaIn", spec := "arenaIn", apart := false, narrowed := true }
def ArenaInUptoSaid : Prop := arenaInUptoRow.holds Try.pinned (OpenSpec.upto arenaInSpec)

/-- 'hayloftlaw08.ArenaMakes', WHERE WHAT IT READS IS OF BULK AT MOST 1048576: true; the input reads as it did. -/
def arenaMakesUptoRow : OpenClaim := { program := "ytjfbopnohijhkaa", sum := "e2370749c3ff9770211712192fa1f13a1808d3a61cc55f30cf5b51b8c0a3d89b", func := "hayloft/hayloftlaw08.ArenaMakes", spec := "arenaMakes", apart := false, narrowed := true }
def ArenaMakesUptoSaid : Prop := arenaMakesUptoRow.holds Try.pinned (OpenSpec.upto arenaMakesSpec)

/-- 'hayloftlaw08.ArenaMoves', WHERE WHAT IT READS IS OF BULK AT MOST 1048576: true; the input reads as it did. -/
def arenaMovesUptoRow : OpenClaim := { program := "ytjfbopnohijhkaa", sum := "e2370749c3ff9770211712192fa1f13a1808d3a61cc55f30cf5b51b8c0a3d89b", func := "hayloft/hayloftlaw08.ArenaMoves", spec := "arenaMoves", apart := false, narrowed := true }
def ArenaMovesUptoSaid : Prop := arenaMovesUptoRow.holds Try.pinned (OpenSpec.upto arenaMovesSpec)

/-- 'hayloftlaw08.ArenaPlaces', WHERE WHAT IT READS IS OF BULK AT MOST 1048576: true; the input reads as it did. -/
def arenaPlacesUptoRow : OpenClaim := { program := "ytjfbopnohijhkaa", sum := "e2370749c3ff9770211712192fa1f13a1808d3a61cc55f30cf5b51b8c0a3d89b", func := "hayloft/hayloftlaw08.ArenaPlaces", spec := "arenaPlaces", apart := false, narrowed := true }
def ArenaPlacesUptoSaid : Prop := arenaPlacesUptoRow.holds Try.pinned (OpenSpec.upto arenaPlacesSpec)

/-- 'hayloftlaw08.ArenaPlays', WHERE WHAT IT READS IS OF BULK AT MOST 1048576: true; the input reads as it did. -/
def arenaPlaysUptoRow : OpenClaim := { program := "ytjfbopnohijhkaa", sum := "e2370749c3ff9770211712192fa1f13a1808d3a61cc55f30cf5b51b8c0a3d89b", func := "hayloft/hayloftlaw08.ArenaPlays", spec := "arenaPlays", apart := false, narrowed := true }
def ArenaPlaysUptoSaid : Prop := arenaPlaysUptoRow.holds Try.pinned (OpenSpec.upto arenaPlaysSpec)

/-- 'hayloftlaw08.ArenaBases', WHERE WHAT IT READS IS OF BULK AT MOST 1048576: true; the input reads as it did. -/
def arenaBasesUptoRow : OpenClaim := { program := "ytjfbopnohijhkaa", sum := "e2370749c3ff9770211712192fa1f13a1808d3a61cc55f30cf5b51b8c0a3d89b", func := "hayloft/hayloftlaw08.ArenaBases", spec := "arenaBases", apart := false, narrowed := true }
def ArenaBasesUptoSaid : Prop := arenaBasesUptoRow.holds Try.pinned (OpenSpec.upto arenaBasesSpec)

/-- 'hayloftlaw08.ArenaNil', WHERE WHAT IT READS IS OF BULK AT MOST 1048576: true; the input reads as it did. -/
def arenaNilUptoRow : OpenClaim := { program := "ytjfbopnohijhkaa", sum := "e2370749c3ff9770211712192fa1f13a1808d3a61cc55f30cf5b51b8c0a3d89b", func := "hayloft/hayloftlaw08.ArenaNil", spec := "arenaNil", apart := false, narrowed := true }
def ArenaNilUptoSaid : Prop := arenaNilUptoRow.holds Try.pinned (OpenSpec.upto arenaNilSpec)

end Rows
end Go.Proofs.Ytjfbopnohijhkaa
