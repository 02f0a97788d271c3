/-
  No cell of these rows narrows 'for every input' (looked for: loops, veiled, ifaces, maps, wideKeys, modest, calm, conditions, laid).
  DERIVED. THE GIVEN ROWS OF THIS SEAT. 9 by the template 'for every input the law returns true; each argument reads behind the call as it read before'; 0 by the template 'total and deterministic' (their statements: YtoedcnhgobbnfaaTotals.lean).
  GIVEN WITH THE SEED: the statements are not yours to turn. If you find one false, say at which input.
  Laid BY PROGRAM, IN A SANDBOX (cutbox-rows.mjs): the forced cells as the released guide's own fill.sh prints them over the translation 6fbb1cc5379ee3b4… (all of the seat's roots in one cut). By AI agents, Wed Nov 11 2026. No macro, syntax, notation, axiom, sorry.
-/
import Derived.Test.YtoedcnhgobbnfaaChecked
import GoSem.Claim
import GoSem.ClaimJoined
import GoSem.ClaimMapViews
import Derived.JoinedTies
import Derived.KernelRfl
namespace Go.Proofs.Ytoedcnhgobbnfaa
/- THE CELL 'sum', in the pinned program and in every row, IS THE sha256 OF THE DUMP (.gsa) THAT YtoedcnhgobbnfaaProg.lean LOADS. Nothing in Lean hashes anything: it is a label: what it is worth is what the hold of that sum in a sandbox is worth. -/
noncomputable def Try.pinned : Pinned := { name := "ytoedcnhgobbnfaa", sum := "6fbb1cc5379ee3b46a1db4c896f8838b046dbd0f7b6768370620bfc10838b502", checked := Try.checked }
namespace Rows
def none {H : Type} : Left H := { results := [], args := [] }

/-- 'laws.FnExactDominates': WHATEVER THE INPUT: true; the input reads as it did. -/
def fnExactDominatesSpec : ChangeSpec := { name := "fnExactDominates", fn := fun _ => fun
  | [d1, d2, d3] => { results := [.lit (.bool true)], args := [d1, d2, d3] }
  | _ => none }
def fnExactDominatesRow : OpenClaim := { program := "ytoedcnhgobbnfaa", sum := "6fbb1cc5379ee3b46a1db4c896f8838b046dbd0f7b6768370620bfc10838b502", func := "loop.example/g00010/laws.FnExactDominates", spec := "fnExactDominates", apart := false }
def FnExactDominatesSaid : Prop := fnExactDominatesRow.holds Try.pinned (OpenSpec.ofChange fnExactDominatesSpec)

/-- ITS FALSE NEIGHBOUR: 'it returns false'. Refute it at one input. -/
def fnExactDominatesWrong : ChangeSpec := { name := "fnExactDominates", fn := fun _ => fun
  | [d1, d2, d3] => { results := [.lit (.bool false)], args := [d1, d2, d3] }
  | _ => none }
def FnExactDominatesWrongFalsely : Prop := fnExactDominatesRow.holds Try.pinned (OpenSpec.ofChange fnExactDominatesWrong)

/-- 'laws.FnExactNextBlocks': WHATEVER THE INPUT: true; the input reads as it did. -/
def fnExactNextBlocksSpec : ChangeSpec := { name := "fnExactNextBlocks", fn := fun _ => fun
  | [d1, d2] => { results := [.lit (.bool true)], args := [d1, d2] }
  | _ => none }
def fnExactNextBlocksRow : OpenClaim := { program := "ytoedcnhgobbnfaa", sum := "6fbb1cc5379ee3b46a1db4c896f8838b046dbd0f7b6768370620bfc10838b502", func := "loop.example/g00010/laws.FnExactNextBlocks", spec := "fnExactNextBlocks", apart := false }
def FnExactNextBlocksSaid : Prop := fnExactNextBlocksRow.holds Try.pinned (OpenSpec.ofChange fnExactNextBlocksSpec)

/-- ITS FALSE NEIGHBOUR: 'it returns false'. Refute it at one input. -/
def fnExactNextBlocksWrong : ChangeSpec := { name := "fnExactNextBlocks", fn := fun _ => fun
  | [d1, d2] => { results := [.lit (.bool false)], args := [d1, d2] }
  | _ => none }
def FnExactNextBlocksWrongFalsely : Prop := fnExactNextBlocksRow.holds Try.pinned (OpenSpec.ofChange fnExactNextBlocksWrong)

/-- 'laws.FnExactPrevBlocks': WHATEVER THE INPUT: true; the input reads as it did. -/
def fnExactPrevBlocksSpec : ChangeSpec := { name := "fnExactPrevBlocks", fn := fun _ => fun
  | [d1, d2] => { results := [.lit (.bool true)], args := [d1, d2] }
  | _ => none }
def fnExactPrevBlocksRow : OpenClaim := { program := "ytoedcnhgobbnfaa", sum := "6fbb1cc5379ee3b46a1db4c896f8838b046dbd0f7b6768370620bfc10838b502", func := "loop.example/g00010/laws.FnExactPrevBlocks", spec := "fnExactPrevBlocks", apart := false }
def FnExactPrevBlocksSaid : Prop := fnExactPrevBlocksRow.holds Try.pinned (OpenSpec.ofChange fnExactPrevBlocksSpec)

/-- ITS FALSE NEIGHBOUR: 'it returns false'. Refute it at one input. -/
def fnExactPrevBlocksWrong : ChangeSpec := { name := "fnExactPrevBlocks", fn := fun _ => fun
  | [d1, d2] => { results := [.lit (.bool false)], args := [d1, d2] }
  | _ => none }
def FnExactPrevBlocksWrongFalsely : Prop := fnExactPrevBlocksRow.holds Try.pinned (OpenSpec.ofChange fnExactPrevBlocksWrong)

/-- 'laws.FnExactUsesOf': WHATEVER THE INPUT: true; the input reads as it did. -/
def fnExactUsesOfSpec : ChangeSpec := { name := "fnExactUsesOf", fn := fun _ => fun
  | [d1, d2] => { results := [.lit (.bool true)], args := [d1, d2] }
  | _ => none }
def fnExactUsesOfRow : OpenClaim := { program := "ytoedcnhgobbnfaa", sum := "6fbb1cc5379ee3b46a1db4c896f8838b046dbd0f7b6768370620bfc10838b502", func := "loop.example/g00010/laws.FnExactUsesOf", spec := "fnExactUsesOf", apart := false }
def FnExactUsesOfSaid : Prop := fnExactUsesOfRow.holds Try.pinned (OpenSpec.ofChange fnExactUsesOfSpec)

/-- ITS FALSE NEIGHBOUR: 'it returns false'. Refute it at one input. -/
def fnExactUsesOfWrong : ChangeSpec := { name := "fnExactUsesOf", fn := fun _ => fun
  | [d1, d2] => { results := [.lit (.bool false)], args := [d1, d2] }
  | _ => none }
def FnExactUsesOfWrongFalsely : Prop := fnExactUsesOfRow.holds Try.pinned (OpenSpec.ofChange fnExactUsesOfWrong)

/-- 'laws.FnExactOrder': WHATEVER THE INPUT: true; the input reads as it did. -/
def fnExactOrderSpec : ChangeSpec := { name := "fnExactOrder", fn := fun _ => fun
  | [d] => { results := [.lit (.bool true)], args := [d] }
  | _ => none }
def fnExactOrderRow : OpenClaim := { program := "ytoedcnhgobbnfaa", sum := "6fbb1cc5379ee3b46a1db4c896f8838b046dbd0f7b6768370620bfc10838b502", func := "loop.example/g00010/laws.FnExactOrder", spec := "fnExactOrder", unfollowed := true, recurses := true, apart := false }
def FnExactOrderSaid : Prop := fnExactOrderRow.holds Try.pinned (OpenSpec.ofChange fnExactOrderSpec)

/-- ITS FALSE NEIGHBOUR: 'it returns false'. Refute it at one input. -/
def fnExactOrderWrong : ChangeSpec := { name := "fnExactOrder", fn := fun _ => fun
  | [d] => { results := [.lit (.bool false)], args := [d] }
  | _ => none }
def FnExactOrderWrongFalsely : Prop := fnExactOrderRow.holds Try.pinned (OpenSpec.ofChange fnExactOrderWrong)

/-- 'laws.FnExactDominators': WHATEVER THE INPUT: true; the input reads as it did. -/
def fnExactDominatorsSpec : ChangeSpec := { name := "fnExactDominators", fn := fun _ => fun
  | [d] => { results := [.lit (.bool true)], args := [d] }
  | _ => none }
def fnExactDominatorsRow : OpenClaim := { program := "ytoedcnhgobbnfaa", sum := "6fbb1cc5379ee3b46a1db4c896f8838b046dbd0f7b6768370620bfc10838b502", func := "loop.example/g00010/laws.FnExactDominators", spec := "fnExactDominators", apart := false }
def FnExactDominatorsSaid : Prop := fnExactDominatorsRow.holds Try.pinned (OpenSpec.ofChange fnExactDominatorsSpec)

/-- ITS FALSE NEIGHBOUR: 'it returns false'. Refute it at one input. -/
def fnExactDominatorsWrong : ChangeSpec := { name := "fnExactDominators", fn := fun _ => fun
  | [d] => { results := [.lit (.bool false)], args := [d] }
  | _ => none }
def FnExactDominatorsWrongFalsely : Prop := fnExactDominatorsRow.holds Try.pinned (OpenSpec.ofChange fnExactDominatorsWrong)

/-- 'laws.FnExactFrontier': WHATEVER THE INPUT: true; the input reads as it did. -/
def fnExactFrontierSpec : ChangeSpec := { name := "fnExactFrontier", fn := fun _ => fun
  | [d1, d2] => { results := [.lit (.bool true)], args := [d1, d2] }
  | _ => none }
def fnExactFrontierRow : OpenClaim := { program := "ytoedcnhgobbnfaa", sum := "6fbb1cc5379ee3b46a1db4c896f8838b046dbd0f7b6768370620bfc10838b502", func := "loop.example/g00010/laws.FnExactFrontier", spec := "fnExactFrontier", apart := false }
def FnExactFrontierSaid : Prop := fnExactFrontierRow.holds Try.pinned (OpenSpec.ofChange fnExactFrontierSpec)

/-- ITS FALSE NEIGHBOUR: 'it returns false'. Refute it at one input. -/
def fnExactFrontierWrong : ChangeSpec := { name := "fnExactFrontier", fn := fun _ => fun
  | [d1, d2] => { results := [.lit (.bool false)], args := [d1, d2] }
  | _ => none }
def FnExactFrontierWrongFalsely : Prop := fnExactFrontierRow.holds Try.pinned (OpenSpec.ofChange fnExactFrontierWrong)

/-- 'laws.FnExactLoops': WHATEVER THE INPUT: true; the input reads as it did. -/
def fnExactLoopsSpec : ChangeSpec := { name := "fnExactLoops", fn := fun _ => fun
  | [d] => { results := [.lit (.bool true)], args := [d] }
  | _ => none }
def fnExactLoopsRow : OpenClaim := { program := "ytoedcnhgobbnfaa", sum := "6fbb1cc5379ee3b46a1db4c896f8838b046dbd0f7b6768370620bfc10838b502", func := "loop.example/g00010/laws.FnExactLoops", spec := "fnExactLoops", apart := false }
def FnExactLoopsSaid : Prop := fnExactLoopsRow.holds Try.pinned (OpenSpec.ofChange fnExactLoopsSpec)

/-- ITS FALSE NEIGHBOUR: 'it returns false'. Refute it at one input. -/
def fnExactLoopsWrong : ChangeSpec := { name := "fnExactLoops", fn := fun _ => fun
  | [d] => { results := [.lit (.bool false)], args := [d] }
  | _ => none }
def FnExactLoopsWrongFalsely : Prop := fnExactLoopsRow.holds Try.pinned (OpenSpec.ofChange fnExactLoopsWrong)

/-- 'laws.FnExactLiveIn': WHATEVER THE INPUT: true; the input reads as it did. -/
def fnExactLiveInSpec : ChangeSpec := { name := "fnExactLiveIn", fn := fun _ => fun
  | [d1, d2] => { results := [.lit (.bool true)], args := [d1, d2] }
  | _ => none }
def fnExactLiveInRow : OpenClaim := { program := "ytoedcnhgobbnfaa", sum := "6fbb1cc5379ee3b46a1db4c896f8838b046dbd0f7b6768370620bfc10838b502", func := "loop.example/g00010/laws.FnExactLiveIn", spec := "fnExactLiveIn", inPlace := ["internal/reflectlite.ValueOf", "internal/reflectlite.Swapper", "(internal/reflectlite.Value).Len"], unfollowed := true, recurses := true, apart := false }
def FnExactLiveInSaid : Prop := fnExactLiveInRow.holds Try.pinned (OpenSpec.ofChange fnExactLiveInSpec)

/-- ITS FALSE NEIGHBOUR: 'it returns false'. Refute it at one input. -/
def fnExactLiveInWrong : ChangeSpec := { name := "fnExactLiveIn", fn := fun _ => fun
  | [d1, d2] => { results := [.lit (.bool false)], args := [d1, d2] }
  | _ => none }
def FnExactLiveInWrongFalsely : Prop := fnExactLiveInRow.holds Try.pinned (OpenSpec.ofChange fnExactLiveInWrong)

/- THE SECOND FORM. 'bulk': how many values and letters a reading holds, each counted each time it is reached (what is shared counts as often as it is met; a slice's spare places count too). A statement '..UptoSaid' is the law's where the arguments, and the package variables that the reading takes, are together of bulk at most 1048576: NARROWER than '..Said'. Prove '..Said' where nothing that the law and all that it calls make is longer than what came in: it says more and counts as full. Else prove '..UptoSaid'. A law counts once. -/
mutual
def uptoBulk {H : Type} : DataW H → Nat
  | .lit (.string bytes) => bytes.length + 1
  | .lit _ => 1
  | .nil => 1
  | .ptr d => uptoBulk d + 1
  | .slice elems spare => uptoBulkAll elems + uptoBulkAll spare + 1
  | .agg parts => uptoBulkAll parts + 1
  | .iface _ d => uptoBulk d + 1
  | .map entries => uptoBulkEntries entries + 1
  | .held _ => 1
def uptoBulkAll {H : Type} : List (DataW H) → Nat
  | [] => 0
  | d :: r => uptoBulk d + uptoBulkAll r
def uptoBulkEntries {H : Type} : List (Lit × DataW H) → Nat
  | [] => 0
  | x :: r => uptoBulkEntry x + uptoBulkEntries r
def uptoBulkEntry {H : Type} : Lit × DataW H → Nat
  | (.string bytes, d) => bytes.length + uptoBulk d + 1
  | (_, d) => uptoBulk d + 1
 end
def uptoSmall : (H : Type) → List (DataW H) → Bool := fun _ ds => decide (uptoBulkAll ds ≤ 1048576)
def OpenSpec.upto (s : _root_.Go.ChangeSpec) : _root_.Go.OpenSpec := { _root_.Go.OpenSpec.ofChange s with cond := some uptoSmall }

/-- 'laws.FnExactDominates', WHERE WHAT IT READS IS OF BULK AT MOST 1048576: true; the input reads as it did. -/
def fnExactDominatesUptoRow : OpenClaim := { program := "ytoedcnhgobbnfaa", sum := "6fbb1cc5379ee3b46a1db4c896f8838b046dbd0f7b6768370620bfc10838b502", func := "loop.example/g00010/laws.FnExactDominates", spec := "fnExactDominates", apart := false, narrowed := true }
def FnExactDominatesUptoSaid : Prop := fnExactDominatesUptoRow.holds Try.pinned (OpenSpec.upto fnExactDominatesSpec)

/-- 'laws.FnExactNextBlocks', WHERE WHAT IT READS IS OF BULK AT MOST 1048576: true; the input reads as it did. -/
def fnExactNextBlocksUptoRow : OpenClaim := { program := "ytoedcnhgobbnfaa", sum := "6fbb1cc5379ee3b46a1db4c896f8838b046dbd0f7b6768370620bfc10838b502", func := "loop.example/g00010/laws.FnExactNextBlocks", spec := "fnExactNextBlocks", apart := false, narrowed := true }
def FnExactNextBlocksUptoSaid : Prop := fnExactNextBlocksUptoRow.holds Try.pinned (OpenSpec.upto fnExactNextBlocksSpec)

/-- 'laws.FnExactPrevBlocks', WHERE WHAT IT READS IS OF BULK AT MOST 1048576: true; the input reads as it did. -/
def fnExactPrevBlocksUptoRow : OpenClaim := { program := "ytoedcnhgobbnfaa", sum := "6fbb1cc5379ee3b46a1db4c896f8838b046dbd0f7b6768370620bfc10838b502", func := "loop.example/g00010/laws.FnExactPrevBlocks", spec := "fnExactPrevBlocks", apart := false, narrowed := true }
def FnExactPrevBlocksUptoSaid : Prop := fnExactPrevBlocksUptoRow.holds Try.pinned (OpenSpec.upto fnExactPrevBlocksSpec)

/-- 'laws.FnExactUsesOf', WHERE WHAT IT READS IS OF BULK AT MOST 1048576: true; the input reads as it did. -/
def fnExactUsesOfUptoRow : OpenClaim := { program := "ytoedcnhgobbnfaa", sum := "6fbb1cc5379ee3b46a1db4c896f8838b046dbd0f7b6768370620bfc10838b502", func := "loop.example/g00010/laws.FnExactUsesOf", spec := "fnExactUsesOf", apart := false, narrowed := true }
def FnExactUsesOfUptoSaid : Prop := fnExactUsesOfUptoRow.holds Try.pinned (OpenSpec.upto fnExactUsesOfSpec)

/-- 'laws.FnExactOrder', WHERE WHAT IT READS IS OF BULK AT MOST 1048576: true; the input reads as it did. -/
def fnExactOrderUptoRow : OpenClaim := { program := "ytoedcnhgobbnfaa", sum := "6fbb1cc5379ee3b46a1db4c896f8838b046dbd0f7b6768370620bfc10838b502", func := "loop.example/g00010/laws.FnExactOrder", spec := "fnExactOrder", unfollowed := true, recurses := true, apart := false, narrowed := true }
def FnExactOrderUptoSaid : Prop := fnExactOrderUptoRow.holds Try.pinned (OpenSpec.upto fnExactOrderSpec)

/-- 'laws.FnExactDominators', WHERE WHAT IT READS IS OF BULK AT MOST 1048576: true; the input reads as it did. -/
def fnExactDominatorsUptoRow : OpenClaim := { program := "ytoedcnhgobbnfaa", sum := "6fbb1cc5379ee3b46a1db4c896f8838b046dbd0f7b6768370620bfc10838b502", func := "loop.example/g00010/laws.FnExactDominators", spec := "fnExactDominators", apart := false, narrowed := true }
def FnExactDominatorsUptoSaid : Prop := fnExactDominatorsUptoRow.holds Try.pinned (OpenSpec.upto fnExactDominatorsSpec)

/-- 'laws.FnExactFrontier', WHERE WHAT IT READS IS OF BULK AT MOST 1048576: true; the input reads as it did. -/
def fnExactFrontierUptoRow : OpenClaim := { program := "ytoedcnhgobbnfaa", sum := "6fbb1cc5379ee3b46a1db4c896f8838b046dbd0f7b6768370620bfc10838b502", func := "loop.example/g00010/laws.FnExactFrontier", spec := "fnExactFrontier", apart := false, narrowed := true }
def FnExactFrontierUptoSaid : Prop := fnExactFrontierUptoRow.holds Try.pinned (OpenSpec.upto fnExactFrontierSpec)

/-- 'laws.FnExactLoops', WHERE WHAT IT READS IS OF BULK AT MOST 1048576: true; the input reads as it did. -/
def fnExactLoopsUptoRow : OpenClaim := { program := "ytoedcnhgobbnfaa", sum := "6fbb1cc5379ee3b46a1db4c896f8838b046dbd0f7b6768370620bfc10838b502", func := "loop.example/g00010/laws.FnExactLoops", spec := "fnExactLoops", apart := false, narrowed := true }
def FnExactLoopsUptoSaid : Prop := fnExactLoopsUptoRow.holds Try.pinned (OpenSpec.upto fnExactLoopsSpec)

/-- 'laws.FnExactLiveIn', WHERE WHAT IT READS IS OF BULK AT MOST 1048576: true; the input reads as it did. -/
def fnExactLiveInUptoRow : OpenClaim := { program := "ytoedcnhgobbnfaa", sum := "6fbb1cc5379ee3b46a1db4c896f8838b046dbd0f7b6768370620bfc10838b502", func := "loop.example/g00010/laws.FnExactLiveIn", spec := "fnExactLiveIn", inPlace := ["internal/reflectlite.ValueOf", "internal/reflectlite.Swapper", "(internal/reflectlite.Value).Len"], unfollowed := true, recurses := true, apart := false, narrowed := true }
def FnExactLiveInUptoSaid : Prop := fnExactLiveInUptoRow.holds Try.pinned (OpenSpec.upto fnExactLiveInSpec)

end Rows
end Go.Proofs.Ytoedcnhgobbnfaa
