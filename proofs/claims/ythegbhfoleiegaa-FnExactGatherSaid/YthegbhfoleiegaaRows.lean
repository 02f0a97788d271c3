/-
  No cell of these rows narrows 'for every input' (looked for: loops, veiled, ifaces, maps, wideKeys, modest, calm, conditions, laid).
  DERIVED. THE GIVEN ROWS OF THIS SEAT. 8 by the template 'for every input the law returns true; each argument reads behind the call as it read before'; 0 by the template 'total and deterministic' (their statements: YthegbhfoleiegaaTotals.lean).
  GIVEN WITH THE SEED: the statements are not yours to turn. If you find one false, say at which input.
  Laid BY PROGRAM, IN A SANDBOX (cutbox-rows.mjs): the forced cells as the released guide's own fill.sh prints them over the translation 5b8711de859f0ce1… (all of the seat's roots in one cut). By AI agents, Wed Nov 11 2026. No macro, syntax, notation, axiom, sorry.
-/
import Derived.Test.YthegbhfoleiegaaChecked
import GoSem.Claim
import GoSem.ClaimJoined
import GoSem.ClaimMapViews
import Derived.JoinedTies
import Derived.KernelRfl
namespace Go.Proofs.Ythegbhfoleiegaa
/- THE CELL 'sum', in the pinned program and in every row, IS THE sha256 OF THE DUMP (.gsa) THAT YthegbhfoleiegaaProg.lean LOADS. Nothing in Lean hashes anything: it is a label: what it is worth is what the hold of that sum in a sandbox is worth. -/
noncomputable def Try.pinned : Pinned := { name := "ythegbhfoleiegaa", sum := "5b8711de859f0ce18d45d9b3f7baef1170da4cf993ed3c2aa57ddc53d9889a57", checked := Try.checked }
namespace Rows
def none {H : Type} : Left H := { results := [], args := [] }

/-- 'laws.FnExactTidy': WHATEVER THE INPUT: true; the input reads as it did. -/
def fnExactTidySpec : ChangeSpec := { name := "fnExactTidy", fn := fun _ => fun
  | [d] => { results := [.lit (.bool true)], args := [d] }
  | _ => none }
def fnExactTidyRow : OpenClaim := { program := "ythegbhfoleiegaa", sum := "5b8711de859f0ce18d45d9b3f7baef1170da4cf993ed3c2aa57ddc53d9889a57", func := "loop.example/g00010/laws.FnExactTidy", spec := "fnExactTidy", plainKeys := false, apart := false }
def FnExactTidySaid : Prop := fnExactTidyRow.holds Try.pinned (OpenSpec.ofChange fnExactTidySpec)

/-- ITS FALSE NEIGHBOUR: 'it returns false'. Refute it at one input. -/
def fnExactTidyWrong : ChangeSpec := { name := "fnExactTidy", fn := fun _ => fun
  | [d] => { results := [.lit (.bool false)], args := [d] }
  | _ => none }
def FnExactTidyWrongFalsely : Prop := fnExactTidyRow.holds Try.pinned (OpenSpec.ofChange fnExactTidyWrong)

/-- 'laws.FnExactLiveRegs': WHATEVER THE INPUT: true; the input reads as it did. -/
def fnExactLiveRegsSpec : ChangeSpec := { name := "fnExactLiveRegs", fn := fun _ => fun
  | [d1, d2] => { results := [.lit (.bool true)], args := [d1, d2] }
  | _ => none }
def fnExactLiveRegsRow : OpenClaim := { program := "ythegbhfoleiegaa", sum := "5b8711de859f0ce18d45d9b3f7baef1170da4cf993ed3c2aa57ddc53d9889a57", func := "loop.example/g00010/laws.FnExactLiveRegs", spec := "fnExactLiveRegs", inPlace := ["internal/reflectlite.ValueOf", "internal/reflectlite.Swapper", "(internal/reflectlite.Value).Len"], unfollowed := true, recurses := true, plainKeys := false, apart := false }
def FnExactLiveRegsSaid : Prop := fnExactLiveRegsRow.holds Try.pinned (OpenSpec.ofChange fnExactLiveRegsSpec)

/-- ITS FALSE NEIGHBOUR: 'it returns false'. Refute it at one input. -/
def fnExactLiveRegsWrong : ChangeSpec := { name := "fnExactLiveRegs", fn := fun _ => fun
  | [d1, d2] => { results := [.lit (.bool false)], args := [d1, d2] }
  | _ => none }
def FnExactLiveRegsWrongFalsely : Prop := fnExactLiveRegsRow.holds Try.pinned (OpenSpec.ofChange fnExactLiveRegsWrong)

/-- 'laws.FnExactIntervals': WHATEVER THE INPUT: true; the input reads as it did. -/
def fnExactIntervalsSpec : ChangeSpec := { name := "fnExactIntervals", fn := fun _ => fun
  | [d] => { results := [.lit (.bool true)], args := [d] }
  | _ => none }
def fnExactIntervalsRow : OpenClaim := { program := "ythegbhfoleiegaa", sum := "5b8711de859f0ce18d45d9b3f7baef1170da4cf993ed3c2aa57ddc53d9889a57", func := "loop.example/g00010/laws.FnExactIntervals", spec := "fnExactIntervals", inPlace := ["internal/reflectlite.ValueOf", "internal/reflectlite.Swapper", "(internal/reflectlite.Value).Len"], unfollowed := true, recurses := true, plainKeys := false, apart := false }
def FnExactIntervalsSaid : Prop := fnExactIntervalsRow.holds Try.pinned (OpenSpec.ofChange fnExactIntervalsSpec)

/-- ITS FALSE NEIGHBOUR: 'it returns false'. Refute it at one input. -/
def fnExactIntervalsWrong : ChangeSpec := { name := "fnExactIntervals", fn := fun _ => fun
  | [d] => { results := [.lit (.bool false)], args := [d] }
  | _ => none }
def FnExactIntervalsWrongFalsely : Prop := fnExactIntervalsRow.holds Try.pinned (OpenSpec.ofChange fnExactIntervalsWrong)

/-- 'laws.FnExactAllocate': WHATEVER THE INPUT: true; the input reads as it did. -/
def fnExactAllocateSpec : ChangeSpec := { name := "fnExactAllocate", fn := fun _ => fun
  | [d1, d2] => { results := [.lit (.bool true)], args := [d1, d2] }
  | _ => none }
def fnExactAllocateRow : OpenClaim := { program := "ythegbhfoleiegaa", sum := "5b8711de859f0ce18d45d9b3f7baef1170da4cf993ed3c2aa57ddc53d9889a57", func := "loop.example/g00010/laws.FnExactAllocate", spec := "fnExactAllocate", inPlace := ["internal/reflectlite.ValueOf", "internal/reflectlite.Swapper", "(internal/reflectlite.Value).Len"], unfollowed := true, recurses := true, plainKeys := false, apart := false }
def FnExactAllocateSaid : Prop := fnExactAllocateRow.holds Try.pinned (OpenSpec.ofChange fnExactAllocateSpec)

/-- ITS FALSE NEIGHBOUR: 'it returns false'. Refute it at one input. -/
def fnExactAllocateWrong : ChangeSpec := { name := "fnExactAllocate", fn := fun _ => fun
  | [d1, d2] => { results := [.lit (.bool false)], args := [d1, d2] }
  | _ => none }
def FnExactAllocateWrongFalsely : Prop := fnExactAllocateRow.holds Try.pinned (OpenSpec.ofChange fnExactAllocateWrong)

/-- 'laws.FnExactNeeded': WHATEVER THE INPUT: true; the input reads as it did. -/
def fnExactNeededSpec : ChangeSpec := { name := "fnExactNeeded", fn := fun _ => fun
  | [d1, d2] => { results := [.lit (.bool true)], args := [d1, d2] }
  | _ => none }
def fnExactNeededRow : OpenClaim := { program := "ythegbhfoleiegaa", sum := "5b8711de859f0ce18d45d9b3f7baef1170da4cf993ed3c2aa57ddc53d9889a57", func := "loop.example/g00010/laws.FnExactNeeded", spec := "fnExactNeeded", plainKeys := false, apart := false }
def FnExactNeededSaid : Prop := fnExactNeededRow.holds Try.pinned (OpenSpec.ofChange fnExactNeededSpec)

/-- ITS FALSE NEIGHBOUR: 'it returns false'. Refute it at one input. -/
def fnExactNeededWrong : ChangeSpec := { name := "fnExactNeeded", fn := fun _ => fun
  | [d1, d2] => { results := [.lit (.bool false)], args := [d1, d2] }
  | _ => none }
def FnExactNeededWrongFalsely : Prop := fnExactNeededRow.holds Try.pinned (OpenSpec.ofChange fnExactNeededWrong)

/-- 'laws.FnExactGather': WHATEVER THE INPUT: true; the input reads as it did. -/
def fnExactGatherSpec : ChangeSpec := { name := "fnExactGather", fn := fun _ => fun
  | [d1, d2, d3] => { results := [.lit (.bool true)], args := [d1, d2, d3] }
  | _ => none }
def fnExactGatherRow : OpenClaim := { program := "ythegbhfoleiegaa", sum := "5b8711de859f0ce18d45d9b3f7baef1170da4cf993ed3c2aa57ddc53d9889a57", func := "loop.example/g00010/laws.FnExactGather", spec := "fnExactGather", inPlace := ["internal/reflectlite.ValueOf", "internal/reflectlite.Swapper", "(internal/reflectlite.Value).Len"], unfollowed := true, recurses := true, plainKeys := false, apart := false }
def FnExactGatherSaid : Prop := fnExactGatherRow.holds Try.pinned (OpenSpec.ofChange fnExactGatherSpec)

/-- ITS FALSE NEIGHBOUR: 'it returns false'. Refute it at one input. -/
def fnExactGatherWrong : ChangeSpec := { name := "fnExactGather", fn := fun _ => fun
  | [d1, d2, d3] => { results := [.lit (.bool false)], args := [d1, d2, d3] }
  | _ => none }
def FnExactGatherWrongFalsely : Prop := fnExactGatherRow.holds Try.pinned (OpenSpec.ofChange fnExactGatherWrong)

/-- 'laws.FnExactObjectFault': WHATEVER THE INPUT: true; the input reads as it did. -/
def fnExactObjectFaultSpec : ChangeSpec := { name := "fnExactObjectFault", fn := fun _ => fun
  | [d] => { results := [.lit (.bool true)], args := [d] }
  | _ => none }
def fnExactObjectFaultRow : OpenClaim := { program := "ythegbhfoleiegaa", sum := "5b8711de859f0ce18d45d9b3f7baef1170da4cf993ed3c2aa57ddc53d9889a57", func := "loop.example/g00010/laws.FnExactObjectFault", spec := "fnExactObjectFault", unfollowed := true, recurses := true, plainKeys := false, apart := false }
def FnExactObjectFaultSaid : Prop := fnExactObjectFaultRow.holds Try.pinned (OpenSpec.ofChange fnExactObjectFaultSpec)

/-- ITS FALSE NEIGHBOUR: 'it returns false'. Refute it at one input. -/
def fnExactObjectFaultWrong : ChangeSpec := { name := "fnExactObjectFault", fn := fun _ => fun
  | [d] => { results := [.lit (.bool false)], args := [d] }
  | _ => none }
def FnExactObjectFaultWrongFalsely : Prop := fnExactObjectFaultRow.holds Try.pinned (OpenSpec.ofChange fnExactObjectFaultWrong)

/-- 'laws.FnExactDecodeObject': WHATEVER THE INPUT: true; the input reads as it did. -/
def fnExactDecodeObjectSpec : ChangeSpec := { name := "fnExactDecodeObject", fn := fun _ => fun
  | [d] => { results := [.lit (.bool true)], args := [d] }
  | _ => none }
def fnExactDecodeObjectRow : OpenClaim := { program := "ythegbhfoleiegaa", sum := "5b8711de859f0ce18d45d9b3f7baef1170da4cf993ed3c2aa57ddc53d9889a57", func := "loop.example/g00010/laws.FnExactDecodeObject", spec := "fnExactDecodeObject", unfollowed := true, recurses := true, plainKeys := false, apart := false }
def FnExactDecodeObjectSaid : Prop := fnExactDecodeObjectRow.holds Try.pinned (OpenSpec.ofChange fnExactDecodeObjectSpec)

/-- ITS FALSE NEIGHBOUR: 'it returns false'. Refute it at one input. -/
def fnExactDecodeObjectWrong : ChangeSpec := { name := "fnExactDecodeObject", fn := fun _ => fun
  | [d] => { results := [.lit (.bool false)], args := [d] }
  | _ => none }
def FnExactDecodeObjectWrongFalsely : Prop := fnExactDecodeObjectRow.holds Try.pinned (OpenSpec.ofChange fnExactDecodeObjectWrong)

/- THE SECOND FORM. 'bulk': how many values and letters a reading holds, each counted each time it is reached (what is shared counts as often as it is met; a slice's spare places count too). A statement '..UptoSaid' is the law's where the arguments, and the package variables that the reading takes, are together of bulk at most 1048576: NARROWER than '..Said'. Prove '..Said' where nothing that the law and all that it calls make is longer than what came in: it says more and counts as full. Else prove '..UptoSaid'. A law counts once. -/
mutual
def uptoBulk {H : Type} : DataW H → Nat
  | .lit (.string bytes) => bytes.length + 1
  | .lit _ => 1
  | .nil => 1
  | .ptr d => uptoBulk d + 1
  | .slice elems spare => uptoBulkAll elems + uptoBulkAll spare + 1
  | .agg parts => uptoBulkAll parts + 1
  | .iface _ d => uptoBulk d + 1
  | .map entries => uptoBulkEntries entries + 1
  | .held _ => 1
def uptoBulkAll {H : Type} : List (DataW H) → Nat
  | [] => 0
  | d :: r => uptoBulk d + uptoBulkAll r
def uptoBulkEntries {H : Type} : List (Lit × DataW H) → Nat
  | [] => 0
  | x :: r => uptoBulkEntry x + uptoBulkEntries r
def uptoBulkEntry {H : Type} : Lit × DataW H → Nat
  | (.string bytes, d) => bytes.length + uptoBulk d + 1
  | (_, d) => uptoBulk d + 1
 end
def uptoSmall : (H : Type) → List (DataW H) → Bool := fun _ ds => decide (uptoBulkAll ds ≤ 1048576)
def OpenSpec.upto (s : _root_.Go.ChangeSpec) : _root_.Go.OpenSpec := { _root_.Go.OpenSpec.ofChange s with cond := some uptoSmall }

/-- 'laws.FnExactTidy', WHERE WHAT IT READS IS OF BULK AT MOST 1048576: true; the input reads as it did. -/
def fnExactTidyUptoRow : OpenClaim := { program := "ythegbhfoleiegaa", sum := "5b8711de859f0ce18d45d9b3f7baef1170da4cf993ed3c2aa57ddc53d9889a57", func := "loop.example/g00010/laws.FnExactTidy", spec := "fnExactTidy", plainKeys := false, apart := false, narrowed := true }
def FnExactTidyUptoSaid : Prop := fnExactTidyUptoRow.holds Try.pinned (OpenSpec.upto fnExactTidySpec)

/-- 'laws.FnExactLiveRegs', WHERE WHAT IT READS IS OF BULK AT MOST 1048576: true; the input reads as it did. -/
def fnExactLiveRegsUptoRow : OpenClaim := { program := "ythegbhfoleiegaa", sum := "5b8711de859f0ce18d45d9b3f7baef1170da4cf993ed3c2aa57ddc53d9889a57", func := "loop.example/g00010/laws.FnExactLiveRegs", spec := "fnExactLiveRegs", inPlace := ["internal/reflectlite.ValueOf", "internal/reflectlite.Swapper", "(internal/reflectlite.Value).Len"], unfollowed := true, recurses := true, plainKeys := false, apart := false, narrowed := true }
def FnExactLiveRegsUptoSaid : Prop := fnExactLiveRegsUptoRow.holds Try.pinned (OpenSpec.upto fnExactLiveRegsSpec)

/-- 'laws.FnExactIntervals', WHERE WHAT IT READS IS OF BULK AT MOST 1048576: true; the input reads as it did. -/
def fnExactIntervalsUptoRow : OpenClaim := { program := "ythegbhfoleiegaa", sum := "5b8711de859f0ce18d45d9b3f7baef1170da4cf993ed3c2aa57ddc53d9889a57", func := "loop.example/g00010/laws.FnExactIntervals", spec := "fnExactIntervals", inPlace := ["internal/reflectlite.ValueOf", "internal/reflectlite.Swapper", "(internal/reflectlite.Value).Len"], unfollowed := true, recurses := true, plainKeys := false, apart := false, narrowed := true }
def FnExactIntervalsUptoSaid : Prop := fnExactIntervalsUptoRow.holds Try.pinned (OpenSpec.upto fnExactIntervalsSpec)

/-- 'laws.FnExactAllocate', WHERE WHAT IT READS IS OF BULK AT MOST 1048576: true; the input reads as it did. -/
def fnExactAllocateUptoRow : OpenClaim := { program := "ythegbhfoleiegaa", sum := "5b8711de859f0ce18d45d9b3f7baef1170da4cf993ed3c2aa57ddc53d9889a57", func := "loop.example/g00010/laws.FnExactAllocate", spec := "fnExactAllocate", inPlace := ["internal/reflectlite.ValueOf", "internal/reflectlite.Swapper", "(internal/reflectlite.Value).Len"], unfollowed := true, recurses := true, plainKeys := false, apart := false, narrowed := true }
def FnExactAllocateUptoSaid : Prop := fnExactAllocateUptoRow.holds Try.pinned (OpenSpec.upto fnExactAllocateSpec)

/-- 'laws.FnExactNeeded', WHERE WHAT IT READS IS OF BULK AT MOST 1048576: true; the input reads as it did. -/
def fnExactNeededUptoRow : OpenClaim := { program := "ythegbhfoleiegaa", sum := "5b8711de859f0ce18d45d9b3f7baef1170da4cf993ed3c2aa57ddc53d9889a57", func := "loop.example/g00010/laws.FnExactNeeded", spec := "fnExactNeeded", plainKeys := false, apart := false, narrowed := true }
def FnExactNeededUptoSaid : Prop := fnExactNeededUptoRow.holds Try.pinned (OpenSpec.upto fnExactNeededSpec)

/-- 'laws.FnExactGather', WHERE WHAT IT READS IS OF BULK AT MOST 1048576: true; the input reads as it did. -/
def fnExactGatherUptoRow : OpenClaim := { program := "ythegbhfoleiegaa", sum := "5b8711de859f0ce18d45d9b3f7baef1170da4cf993ed3c2aa57ddc53d9889a57", func := "loop.example/g00010/laws.FnExactGather", spec := "fnExactGather", inPlace := ["internal/reflectlite.ValueOf", "internal/reflectlite.Swapper", "(internal/reflectlite.Value).Len"], unfollowed := true, recurses := true, plainKeys := false, apart := false, narrowed := true }
def FnExactGatherUptoSaid : Prop := fnExactGatherUptoRow.holds Try.pinned (OpenSpec.upto fnExactGatherSpec)

/-- 'laws.FnExactObjectFault', WHERE WHAT IT READS IS OF BULK AT MOST 1048576: true; the input reads as it did. -/
def fnExactObjectFaultUptoRow : OpenClaim := { program := "ythegbhfoleiegaa", sum := "5b8711de859f0ce18d45d9b3f7baef1170da4cf993ed3c2aa57ddc53d9889a57", func := "loop.example/g00010/laws.FnExactObjectFault", spec := "fnExactObjectFault", unfollowed := true, recurses := true, plainKeys := false, apart := false, narrowed := true }
def FnExactObjectFaultUptoSaid : Prop := fnExactObjectFaultUptoRow.holds Try.pinned (OpenSpec.upto fnExactObjectFaultSpec)

/-- 'laws.FnExactDecodeObject', WHERE WHAT IT READS IS OF BULK AT MOST 1048576: true; the input reads as it did. -/
def fnExactDecodeObjectUptoRow : OpenClaim := { program := "ythegbhfoleiegaa", sum := "5b8711de859f0ce18d45d9b3f7baef1170da4cf993ed3c2aa57ddc53d9889a57", func := "loop.example/g00010/laws.FnExactDecodeObject", spec := "fnExactDecodeObject", unfollowed := true, recurses := true, plainKeys := false, apart := false, narrowed := true }
def FnExactDecodeObjectUptoSaid : Prop := fnExactDecodeObjectUptoRow.holds Try.pinned (OpenSpec.upto fnExactDecodeObjectSpec)

end Rows
end Go.Proofs.Ythegbhfoleiegaa
