/- Part 2 of the proof of FnExactLoops: functions of the translation with what they return, and plain laws of these. Written by programs of this session over the kit's print, and by hand. -/
import Derived.Test.YtoedcnhgobbnfaaProg
import Derived.Test.YtoedcnhgobbnfaaCFnExactLoopsWApart
import Derived.Test.YtoedcnhgobbnfaaCFnExactLoopsWArr
import Derived.Test.YtoedcnhgobbnfaaCFnExactLoopsWFoot
import Derived.Test.YtoedcnhgobbnfaaCFnExactLoopsWGuard
import Derived.Test.YtoedcnhgobbnfaaCFnExactLoopsWInv
import Derived.Test.YtoedcnhgobbnfaaCFnExactLoopsWKept
import Derived.Test.YtoedcnhgobbnfaaCFnExactLoopsWLast
import Derived.Test.YtoedcnhgobbnfaaCFnExactLoopsWMore
import Derived.Test.YtoedcnhgobbnfaaCFnExactLoopsWN
import Derived.Test.YtoedcnhgobbnfaaCFnExactLoopsWNEv
import Derived.Test.YtoedcnhgobbnfaaCFnExactLoopsWQPut
import Derived.Test.YtoedcnhgobbnfaaCFnExactLoopsWRepsOne
import Derived.Test.YtoedcnhgobbnfaaCFnExactLoopsWShare
import Derived.Test.YtoedcnhgobbnfaaCFnExactLoopsWTab
import Derived.Test.YtoedcnhgobbnfaaCFnExactLoopsWWords
import Derived.Test.YtoedcnhgobbnfaaCFnExactLoopsWZeros
import Derived.Below
import Derived.Deep.Draws
import Derived.Deep.AppendLies
import Derived.Maps.AppendAt
import Derived.OwnWalk
import Derived.Laws.BytesArg
import Derived.Laws.MakeOwn
import Derived.Laws.OwnMore
import Derived.Deep.OwnRows
import Derived.Tactics
import Derived.Lib.ConvBytes
import Derived.Laws.Slices
import Derived.WalkKit
import Derived.KernelRfl
import Derived.RowKit3
import Derived.Deep.LoopGhost
import Derived.Deep.QuietTactic
import Derived.BigQuiet
import Derived.WideLaws
import Derived.Deep.DeepCutAuto
import Derived.Deep.CutBlock
import Derived.Deep.RegionHeld3
import Derived.Laws.Rows
import Derived.Lib.AppendStr
import Derived.ArgAppend
import Derived.Laws.IdiomCopy
import Derived.OrdersHeld
import Derived.Laws.BitsLemmas
import Derived.RowKit
import Derived.Maps.OwnSet
import Derived.Maps.OwnOps
import Derived.Deep.Slices
import Derived.ChangeArms
import Derived.ProofKit
import Derived.OpenShut
import Derived.ShutString
import Derived.ChangeOld
import Derived.SizedLaws
import Derived.Test.YtoedcnhgobbnfaaCFnExactLoops1
namespace Go.Proofs.Ytoedcnhgobbnfaa.All
open Go.RowKit Go.Proofs.YtoedcnhgobbnfaaW.PrintWords Go.Proofs.YtoedcnhgobbnfaaW.PrintLast Go.Proofs.YtoedcnhgobbnfaaW.PrintMore
attribute [local go_sem] max2_int min2_int max_two min_two max_three min_three max_four min_four   -- for this text's walks alone
set_option linter.unusedVariables false
set_option linter.unusedSimpArgs false

def laws_eqInstr.f (k : Nat) (a0_0 : Int) (a0_1 : Int) (a0_2 : Int) (a0_3 : Int) (a0_4 : Int) (a0_5 : Int) (l0_6 : List (S75)) (l0_7 : List Int) (l0_8 : List Int) (a1_0 : Int) (a1_1 : Int) (a1_2 : Int) (a1_3 : Int) (a1_4 : Int) (a1_5 : Int) (l1_6 : List (S75)) (l1_7 : List Int) (l1_8 : List Int) : Option Bool := if a0_0 = a1_0 then (if a0_1 = a1_1 then (if a0_2 = a1_2 then (if a0_3 = a1_3 then (if a0_4 = a1_4 then (if a0_5 = a1_5 then (((laws_eqOperandS.f k l0_6 l1_6).bind fun t6 => (if t6 = true then (((laws_eqInt64S.f k l0_7 l1_7).bind fun t7 => (if t7 = true then (((laws_eqUint64S.f k l0_8 l1_8).bind fun t8 => (if t8 = true then (some true) else none))) else none))) else none))) else none) else none) else none) else none) else none) else none
set_option maxHeartbeats 4000000 in
set_option maxRecDepth 100000 in
theorem laws_eqInstr.calls (k : Nat) (a0_0 : Int) (a0_1 : Int) (a0_2 : Int) (a0_3 : Int) (a0_4 : Int) (a0_5 : Int) (A0_6 : Option Addr) (c0_6 : Nat) (l0_6 : List (S75)) (A0_7 : Option Addr) (c0_7 : Nat) (l0_7 : List Int) (A0_8 : Option Addr) (c0_8 : Nat) (l0_8 : List Int) (a1_0 : Int) (a1_1 : Int) (a1_2 : Int) (a1_3 : Int) (a1_4 : Int) (a1_5 : Int) (A1_6 : Option Addr) (c1_6 : Nat) (l1_6 : List (S75)) (A1_7 : Option Addr) (c1_7 : Nat) (l1_7 : List Int) (A1_8 : Option Addr) (c1_8 : Nat) (l1_8 : List Int) (r : Bool) (w : World) (hr0_6 : Kd.C k75 w A0_6 l0_6.length l0_6) (hc0_6 : l0_6.length ≤ c0_6) (hr0_7 : Kd.C (Kd.int .i64) w A0_7 l0_7.length l0_7) (hc0_7 : l0_7.length ≤ c0_7) (hr0_8 : Kd.C (Kd.int .u64) w A0_8 l0_8.length l0_8) (hc0_8 : l0_8.length ≤ c0_8) (hr1_6 : Kd.C k75 w A1_6 l1_6.length l1_6) (hc1_6 : l1_6.length ≤ c1_6) (hr1_7 : Kd.C (Kd.int .i64) w A1_7 l1_7.length l1_7) (hc1_7 : l1_7.length ≤ c1_7) (hr1_8 : Kd.C (Kd.int .u64) w A1_8 l1_8.length l1_8) (hc1_8 : l1_8.length ≤ c1_8) (h : laws_eqInstr.f k a0_0 a0_1 a0_2 a0_3 a0_4 a0_5 l0_6 l0_7 l0_8 a1_0 a1_1 a1_2 a1_3 a1_4 a1_5 l1_6 l1_7 l1_8 = some r) :
 Calls Try.prog 109 #[.agg #[.int .i64 a0_0, .int .i64 a0_1, .int .i64 a0_2, .int .i64 a0_3, .int .i64 a0_4, .int .i64 a0_5, .slice A0_6 l0_6.length c0_6, .slice A0_7 l0_7.length c0_7, .slice A0_8 l0_8.length c0_8], .agg #[.int .i64 a1_0, .int .i64 a1_1, .int .i64 a1_2, .int .i64 a1_3, .int .i64 a1_4, .int .i64 a1_5, .slice A1_6 l1_6.length c1_6, .slice A1_7 l1_7.length c1_7, .slice A1_8 l1_8.length c1_8]] w fun e w' => e = .returned (.bool r) ∧ Below w.heap.size w w' := by
 unfold laws_eqInstr.f at h
 by_cases e0 : a0_0 = a1_0
 rotate_left
 · rw [if_neg e0] at h; cases h
 rw [if_pos e0] at h
 subst e0
 by_cases e1 : a0_1 = a1_1
 rotate_left
 · rw [if_neg e1] at h; cases h
 rw [if_pos e1] at h
 subst e1
 by_cases e2 : a0_2 = a1_2
 rotate_left
 · rw [if_neg e2] at h; cases h
 rw [if_pos e2] at h
 subst e2
 by_cases e3 : a0_3 = a1_3
 rotate_left
 · rw [if_neg e3] at h; cases h
 rw [if_pos e3] at h
 subst e3
 by_cases e4 : a0_4 = a1_4
 rotate_left
 · rw [if_neg e4] at h; cases h
 rw [if_pos e4] at h
 subst e4
 by_cases e5 : a0_5 = a1_5
 rotate_left
 · rw [if_neg e5] at h; cases h
 rw [if_pos e5] at h
 subst e5
 obtain ⟨t6, b6, h6⟩ := Option.bind_eq_some_iff.mp h
 clear h
 by_cases e6 : t6 = true
 rotate_left
 · rw [if_neg e6] at h6; cases h6
 rw [if_pos e6] at h6
 subst e6
 have B6 := Aside0.mk b6
 clear b6
 obtain ⟨t7, b7, h7⟩ := Option.bind_eq_some_iff.mp h6
 clear h6
 by_cases e7 : t7 = true
 rotate_left
 · rw [if_neg e7] at h7; cases h7
 rw [if_pos e7] at h7
 subst e7
 have B7 := Aside0.mk b7
 clear b7
 obtain ⟨t8, b8, h8⟩ := Option.bind_eq_some_iff.mp h7
 clear h7
 by_cases e8 : t8 = true
 rotate_left
 · rw [if_neg e8] at h8; cases h8
 rw [if_pos e8] at h8
 subst e8
 have B8 := Aside0.mk b8
 clear b8
 obtain rfl := Option.some.inj h8
 clear h8
 have R0_6 := Aside0.mk hr0_6; have C0_6 := Aside0.mk hc0_6; clear hr0_6 hc0_6
 have R0_7 := Aside0.mk hr0_7; have C0_7 := Aside0.mk hc0_7; clear hr0_7 hc0_7
 have R0_8 := Aside0.mk hr0_8; have C0_8 := Aside0.mk hc0_8; clear hr0_8 hc0_8
 have R1_6 := Aside0.mk hr1_6; have C1_6 := Aside0.mk hc1_6; clear hr1_6 hc1_6
 have R1_7 := Aside0.mk hr1_7; have C1_7 := Aside0.mk hc1_7; clear hr1_7 hc1_7
 have R1_8 := Aside0.mk hr1_8; have C1_8 := Aside0.mk hc1_8; clear hr1_8 hc1_8
 have hu := Try.underlying66
 go_enter Try.func109, Try.ntmps109
 go_wp2_with (first | (go_at_call 120; refine calls_at (fun W => Below w.heap.size w W ∧ W.heap[w.heap.size]? = some (.cells #[.int .i64 a0_0, .int .i64 a0_1, .int .i64 a0_2, .int .i64 a0_3, .int .i64 a0_4, .int .i64 a0_5, .slice A0_6 l0_6.length c0_6, .slice A0_7 l0_7.length c0_7, .slice A0_8 l0_8.length c0_8] 66 (0, 0)) ∧ W.heap[w.heap.size + 1]? = some (.cells #[.int .i64 a0_0, .int .i64 a0_1, .int .i64 a0_2, .int .i64 a0_3, .int .i64 a0_4, .int .i64 a0_5, .slice A1_6 l1_6.length c1_6, .slice A1_7 l1_7.length c1_7, .slice A1_8 l1_8.length c1_8] 66 (0, 0))) ?h_6 ?_; (case h_6 => exact ⟨below_alloc (below_alloc (Below.refl _ _) _) _, alloc2_0 _ _ _, alloc2_1 _ _ _⟩); rintro W6 ⟨b6, p6, q6⟩; refine (laws_eqOperandS.calls k A0_6 c0_6 l0_6 A1_6 c1_6 l1_6 true W6 (Kd.C_below R0_6.out b6) C0_6.out (Kd.C_below R1_6.out b6) C1_6.out B6.out).mono ?_; rintro e w6 ⟨rfl, d6⟩; have BW6 := Aside0.mk (below_step b6 d6); have P6 := Aside0.mk ((d6.block _ (blk_lt p6)).trans p6); have Q6 := Aside0.mk ((d6.block _ (blk_lt q6)).trans q6); clear b6 p6 q6 d6; have x6_7 : w6.cell? ⟨w.heap.size, 7, none⟩ = some (.slice A0_7 l0_7.length c0_7) := (blk_cell P6.out 7).trans rfl; have y6_7 : w6.cell? ⟨w.heap.size + 1, 7, none⟩ = some (.slice A1_7 l1_7.length c1_7) := (blk_cell Q6.out 7).trans rfl; have x6_8 : w6.cell? ⟨w.heap.size, 8, none⟩ = some (.slice A0_8 l0_8.length c0_8) := (blk_cell P6.out 8).trans rfl; have y6_8 : w6.cell? ⟨w.heap.size + 1, 8, none⟩ = some (.slice A1_8 l1_8.length c1_8) := (blk_cell Q6.out 8).trans rfl) | (go_at_call 19; refine calls_at (fun W => Below w.heap.size w W ∧ W.heap[w.heap.size]? = some (.cells #[.int .i64 a0_0, .int .i64 a0_1, .int .i64 a0_2, .int .i64 a0_3, .int .i64 a0_4, .int .i64 a0_5, .slice A0_6 l0_6.length c0_6, .slice A0_7 l0_7.length c0_7, .slice A0_8 l0_8.length c0_8] 66 (0, 0)) ∧ W.heap[w.heap.size + 1]? = some (.cells #[.int .i64 a0_0, .int .i64 a0_1, .int .i64 a0_2, .int .i64 a0_3, .int .i64 a0_4, .int .i64 a0_5, .slice A1_6 l1_6.length c1_6, .slice A1_7 l1_7.length c1_7, .slice A1_8 l1_8.length c1_8] 66 (0, 0))) ?h_7 ?_; (case h_7 => exact ⟨BW6.out, P6.out, Q6.out⟩); rintro W7 ⟨b7, p7, q7⟩; refine (laws_eqInt64S.calls k A0_7 c0_7 l0_7 A1_7 c1_7 l1_7 true W7 (Kd.C_below R0_7.out b7) C0_7.out (Kd.C_below R1_7.out b7) C1_7.out B7.out).mono ?_; rintro e w7 ⟨rfl, d7⟩; have d7 := d7.below; have BW7 := Aside0.mk (below_step b7 d7); have P7 := Aside0.mk ((d7.block _ (blk_lt p7)).trans p7); have Q7 := Aside0.mk ((d7.block _ (blk_lt q7)).trans q7); clear b7 p7 q7 d7; have x7_8 : w7.cell? ⟨w.heap.size, 8, none⟩ = some (.slice A0_8 l0_8.length c0_8) := (blk_cell P7.out 8).trans rfl; have y7_8 : w7.cell? ⟨w.heap.size + 1, 8, none⟩ = some (.slice A1_8 l1_8.length c1_8) := (blk_cell Q7.out 8).trans rfl) | (go_at_call 121; refine calls_at (fun W => Below w.heap.size w W ∧ W.heap[w.heap.size]? = some (.cells #[.int .i64 a0_0, .int .i64 a0_1, .int .i64 a0_2, .int .i64 a0_3, .int .i64 a0_4, .int .i64 a0_5, .slice A0_6 l0_6.length c0_6, .slice A0_7 l0_7.length c0_7, .slice A0_8 l0_8.length c0_8] 66 (0, 0)) ∧ W.heap[w.heap.size + 1]? = some (.cells #[.int .i64 a0_0, .int .i64 a0_1, .int .i64 a0_2, .int .i64 a0_3, .int .i64 a0_4, .int .i64 a0_5, .slice A1_6 l1_6.length c1_6, .slice A1_7 l1_7.length c1_7, .slice A1_8 l1_8.length c1_8] 66 (0, 0))) ?h_8 ?_; (case h_8 => exact ⟨BW7.out, P7.out, Q7.out⟩); rintro W8 ⟨b8, p8, q8⟩; refine (laws_eqUint64S.calls k A0_8 c0_8 l0_8 A1_8 c1_8 l1_8 true W8 (Kd.C_below R0_8.out b8) C0_8.out (Kd.C_below R1_8.out b8) C1_8.out B8.out).mono ?_; rintro e w8 ⟨rfl, d8⟩; have d8 := d8.below; have BW8 := Aside0.mk (below_step b8 d8); have P8 := Aside0.mk ((d8.block _ (blk_lt p8)).trans p8); have Q8 := Aside0.mk ((d8.block _ (blk_lt q8)).trans q8); clear b8 p8 q8 d8))
 go_ret
 exact ⟨rfl, BW8.out⟩

set_option linter.unusedVariables false
set_option linter.unusedSimpArgs false

def laws_eqInstrS.l0 : Nat → List (S66) → List (S66) → Int → Option (Bool)
 | 0, _, _, _ => none
 | k + 1, x0, x1, x5 => if x5 < (x0.length : Int) then (if 0 ≤ x5 then (if x5 < (x1.length : Int) then ((laws_eqInstr.f k ((rd_T66 x0 x5).f0) ((rd_T66 x0 x5).f1) ((rd_T66 x0 x5).f2) ((rd_T66 x0 x5).f3) ((rd_T66 x0 x5).f4) ((rd_T66 x0 x5).f5) ((rd_T66 x0 x5).f6) ((rd_T66 x0 x5).f7) ((rd_T66 x0 x5).f8) ((rd_T66 x1 x5).f0) ((rd_T66 x1 x5).f1) ((rd_T66 x1 x5).f2) ((rd_T66 x1 x5).f3) ((rd_T66 x1 x5).f4) ((rd_T66 x1 x5).f5) ((rd_T66 x1 x5).f6) ((rd_T66 x1 x5).f7) ((rd_T66 x1 x5).f8)).bind fun t280 => (if t280 = true then (laws_eqInstrS.l0 k x0 x1 (wrap64 (x5 + 1))) else (some false))) else (none)) else (none)) else (some true)
def laws_eqInstrS.f (k : Nat) (l0 : List (S66)) (l1 : List (S66)) : Option (Bool) := if (l0.length : Int) = (l1.length : Int) then (laws_eqInstrS.l0 k l0 l1 0) else (some false)
def laws_eqInstrS.T6 : Bool × List (List Nat × List Nat) := (true, [([], []), ([], []), ([0, 1], [0, 1]), ([2], [2]), ([], []), ([], []), ([4, 5], [4, 5]), ([6], [6]), ([3, 7], [3, 7]), ([8], [8])])
def laws_eqInstrS.B6 : List Nat := [0, 0, 3, 7, 0, 0, 48, 112, 255, 511]
theorem laws_eqInstrS.tab6 : rtab .any (opsOf Try.f83 6) = laws_eqInstrS.T6 := by kernel_rfl
theorem laws_eqInstrS.bits6 : waitsOk laws_eqInstrS.T6.2 laws_eqInstrS.B6 = true := by kernel_rfl
set_option maxHeartbeats 8000000 in
set_option maxRecDepth 100000 in
theorem laws_eqInstrS.calls (k : Nat) (A0 : Option Addr) (c0 : Nat) (l0 : List (S66)) (A1 : Option Addr) (c1 : Nat) (l1 : List (S66)) (r : Bool) (w : World) (hr0 : Kd.C k66 w A0 l0.length l0) (hc0 : l0.length ≤ c0) (hr1 : Kd.C k66 w A1 l1.length l1) (hc1 : l1.length ≤ c1) (h : laws_eqInstrS.f k l0 l1 = some r) :
 Calls Try.prog 83 #[.slice A0 l0.length c0, .slice A1 l1.length c1] w fun e w' => e = .returned (.bool r) ∧ Below w.heap.size w w' := by
 have hu66 := Try.underlying66
 have HR0 := Aside0.mk hr0
 have HC0 := Aside0.mk hc0
 clear hr0 hc0
 have HR1 := Aside0.mk hr1
 have HC1 := Aside0.mk hc1
 clear hr1 hc1
 have HB := Aside0.mk (Below.refl w.heap.size w)
 have H : (if (l0.length : Int) = (l1.length : Int) then (laws_eqInstrS.l0 k l0 l1 0) else (some false)) = some r := h
 clear h
 by_cases c3 : (l0.length : Int) = (l1.length : Int)
 · rw [if_pos c3] at H
   have c3b0 : ((l0.length : Int) == (l1.length : Int)) = true := beq_iff_eq.mpr c3
   have c3b1 : ((l0.length : Int) != (l1.length : Int)) = false := bne_eq_false_iff_eq.mpr c3
   have c3b2 : (l0.length == l1.length) = true := by first | simpa using c3 | (simp at c3 ⊢; omega)
   clear c3
   have H' := Aside0.mk H
   clear H
   go_enter Try.func83, Try.ntmps83
   go_wp2
   go_loopg [5] k (fun kq v5 w' => ∃ (x5_1 : Int), v5 = .int .i64 x5_1 ∧ Aside0 (laws_eqInstrS.l0 kq l0 l1 x5_1 = some r) ∧ Aside0 (kq ≤ k) ∧ Aside0 (Below w.heap.size w w'))
   case atStart => exact ⟨(0), sz_, H', ⟨Nat.le_refl _⟩, ⟨ bz⟩⟩
   case round =>
    clear H'
    try clear c1
    try clear p2
    try clear c3
    try clear c3b0
    try clear c3b1
    try clear c3b2
    obtain ⟨x5_1, rfl, HA, HK1, HB⟩ := hrel
    cases gk with
    | zero => exact absurd HA.out (by simp [laws_eqInstrS.l0])
    | succ k1 =>
     have H := HA.out
     clear HA
     simp only [laws_eqInstrS.l0] at H
     by_cases c4 : x5_1 < (l0.length : Int)
     · rw [if_pos c4] at H
       have c4b0 : decide (x5_1 < (l0.length : Int)) = true := decide_eq_true c4
       clear c4
       by_cases c5 : 0 ≤ x5_1
       · rw [if_pos c5] at H
         have c5b0 : decide (0 ≤ x5_1) = true := decide_eq_true c5
         clear c5
         by_cases c6 : x5_1 < (l1.length : Int)
         · rw [if_pos c6] at H
           have c6b0 : decide (x5_1 < (l1.length : Int)) = true := decide_eq_true c6
           clear c6
           replace H := Option.bind_eq_some_iff.mp H
           obtain ⟨t280, A70, H⟩ := H
           replace H : (if t280 = true then (laws_eqInstrS.l0 k1 l0 l1 (wrap64 (x5_1 + 1))) else (some false)) = some r := H
           have A7 := Aside0.mk A70
           clear A70
           by_cases c8 : t280 = true
           · subst c8
             have H1 : (laws_eqInstrS.l0 k1 l0 l1 (wrap64 (x5_1 + 1))) = some r := by rw [if_pos rfl] at H; exact H
             clear H
             have H := H1
             clear H1
             have H' := Aside0.mk H
             clear H
             try go_wp2
             have n0_ := Aside0.mk (below_drew1 HB.out)
             clear HB
             have HB := n0_
             clear n0_
             have p278 : 0 ≤ (x5_1 : Int) := of_decide_eq_true az
             have q278 : x5_1 < (l0.length : Int) := of_decide_eq_true az
             obtain ⟨ad278, A278_6, c278_6, A278_7, c278_7, A278_8, c278_8, e278, hx278_0, hx278_1, hx278_2, hx278_3, hx278_4, hx278_5, hx278_6, hx278_7, hx278_8, hl278_6, hi278_6, hl278_7, hi278_7, hl278_8, hi278_8⟩ := at_T66 HR0.out x5_1 p278 q278
             have hw278_8 := hx278_8
             have hw278_7 := hx278_7
             have hw278_6 := hx278_6
             have hw278_5 := hx278_5
             have hw278_4 := hx278_4
             have hw278_3 := hx278_3
             have hw278_2 := hx278_2
             have hw278_1 := hx278_1
             have hw278_0 := hx278_0
             cases e278
             replace hx278_0 := ck HB hx278_0
             replace hx278_1 := ck HB hx278_1
             replace hx278_2 := ck HB hx278_2
             replace hx278_3 := ck HB hx278_3
             replace hx278_4 := ck HB hx278_4
             replace hx278_5 := ck HB hx278_5
             replace hx278_6 := ck HB hx278_6
             replace hx278_7 := ck HB hx278_7
             replace hx278_8 := ck HB hx278_8
             have HR278_6 := Aside0.mk hi278_6
             have HC278_6 := Aside0.mk hl278_6
             clear hi278_6 hl278_6
             have HR278_7 := Aside0.mk hi278_7
             have HC278_7 := Aside0.mk hl278_7
             clear hi278_7 hl278_7
             have HR278_8 := Aside0.mk hi278_8
             have HC278_8 := Aside0.mk hl278_8
             clear hi278_8 hl278_8
             replace p278 := eq_true p278
             replace q278 := eq_true q278
             have p279 : 0 ≤ (x5_1 : Int) := of_decide_eq_true az
             have q279 : x5_1 < (l1.length : Int) := of_decide_eq_true az
             obtain ⟨ad279, A279_6, c279_6, A279_7, c279_7, A279_8, c279_8, e279, hx279_0, hx279_1, hx279_2, hx279_3, hx279_4, hx279_5, hx279_6, hx279_7, hx279_8, hl279_6, hi279_6, hl279_7, hi279_7, hl279_8, hi279_8⟩ := at_T66 HR1.out x5_1 p279 q279
             have hw279_8 := hx279_8
             have hw279_7 := hx279_7
             have hw279_6 := hx279_6
             have hw279_5 := hx279_5
             have hw279_4 := hx279_4
             have hw279_3 := hx279_3
             have hw279_2 := hx279_2
             have hw279_1 := hx279_1
             have hw279_0 := hx279_0
             cases e279
             replace hx279_0 := ck HB hx279_0
             replace hx279_1 := ck HB hx279_1
             replace hx279_2 := ck HB hx279_2
             replace hx279_3 := ck HB hx279_3
             replace hx279_4 := ck HB hx279_4
             replace hx279_5 := ck HB hx279_5
             replace hx279_6 := ck HB hx279_6
             replace hx279_7 := ck HB hx279_7
             replace hx279_8 := ck HB hx279_8
             have HR279_6 := Aside0.mk hi279_6
             have HC279_6 := Aside0.mk hl279_6
             clear hi279_6 hl279_6
             have HR279_7 := Aside0.mk hi279_7
             have HC279_7 := Aside0.mk hl279_7
             clear hi279_7 hl279_7
             have HR279_8 := Aside0.mk hi279_8
             have HC279_8 := Aside0.mk hl279_8
             clear hi279_8 hl279_8
             replace p279 := eq_true p279
             replace q279 := eq_true q279
             refine start_ (n := 10) (S := fun w' => w'.cell? (ad278.add ((x5_1).toNat * 9)) = some (.int .i64 ((rd_T66 l0 x5_1).f0)) ∧ w'.cell? ⟨(ad278.add ((x5_1).toNat * 9)).block, (ad278.add ((x5_1).toNat * 9)).off + 1, none⟩ = some (.int .i64 ((rd_T66 l0 x5_1).f1)) ∧ w'.cell? ⟨(ad278.add ((x5_1).toNat * 9)).block, (ad278.add ((x5_1).toNat * 9)).off + 2, none⟩ = some (.int .i64 ((rd_T66 l0 x5_1).f2)) ∧ w'.cell? ⟨(ad278.add ((x5_1).toNat * 9)).block, (ad278.add ((x5_1).toNat * 9)).off + 3, none⟩ = some (.int .i64 ((rd_T66 l0 x5_1).f3)) ∧ w'.cell? ⟨(ad278.add ((x5_1).toNat * 9)).block, (ad278.add ((x5_1).toNat * 9)).off + 4, none⟩ = some (.int .i64 ((rd_T66 l0 x5_1).f4)) ∧ w'.cell? ⟨(ad278.add ((x5_1).toNat * 9)).block, (ad278.add ((x5_1).toNat * 9)).off + 5, none⟩ = some (.int .i64 ((rd_T66 l0 x5_1).f5)) ∧ w'.cell? ⟨(ad278.add ((x5_1).toNat * 9)).block, (ad278.add ((x5_1).toNat * 9)).off + 6, none⟩ = some (.slice A278_6 ((rd_T66 l0 x5_1).f6).length c278_6) ∧ w'.cell? ⟨(ad278.add ((x5_1).toNat * 9)).block, (ad278.add ((x5_1).toNat * 9)).off + 7, none⟩ = some (.slice A278_7 ((rd_T66 l0 x5_1).f7).length c278_7) ∧ w'.cell? ⟨(ad278.add ((x5_1).toNat * 9)).block, (ad278.add ((x5_1).toNat * 9)).off + 8, none⟩ = some (.slice A278_8 ((rd_T66 l0 x5_1).f8).length c278_8) ∧ w'.cell? (ad279.add ((x5_1).toNat * 9)) = some (.int .i64 ((rd_T66 l1 x5_1).f0)) ∧ w'.cell? ⟨(ad279.add ((x5_1).toNat * 9)).block, (ad279.add ((x5_1).toNat * 9)).off + 1, none⟩ = some (.int .i64 ((rd_T66 l1 x5_1).f1)) ∧ w'.cell? ⟨(ad279.add ((x5_1).toNat * 9)).block, (ad279.add ((x5_1).toNat * 9)).off + 2, none⟩ = some (.int .i64 ((rd_T66 l1 x5_1).f2)) ∧ w'.cell? ⟨(ad279.add ((x5_1).toNat * 9)).block, (ad279.add ((x5_1).toNat * 9)).off + 3, none⟩ = some (.int .i64 ((rd_T66 l1 x5_1).f3)) ∧ w'.cell? ⟨(ad279.add ((x5_1).toNat * 9)).block, (ad279.add ((x5_1).toNat * 9)).off + 4, none⟩ = some (.int .i64 ((rd_T66 l1 x5_1).f4)) ∧ w'.cell? ⟨(ad279.add ((x5_1).toNat * 9)).block, (ad279.add ((x5_1).toNat * 9)).off + 5, none⟩ = some (.int .i64 ((rd_T66 l1 x5_1).f5)) ∧ w'.cell? ⟨(ad279.add ((x5_1).toNat * 9)).block, (ad279.add ((x5_1).toNat * 9)).off + 6, none⟩ = some (.slice A279_6 ((rd_T66 l1 x5_1).f6).length c279_6) ∧ w'.cell? ⟨(ad279.add ((x5_1).toNat * 9)).block, (ad279.add ((x5_1).toNat * 9)).off + 7, none⟩ = some (.slice A279_7 ((rd_T66 l1 x5_1).f7).length c279_7) ∧ w'.cell? ⟨(ad279.add ((x5_1).toNat * 9)).block, (ad279.add ((x5_1).toNat * 9)).off + 8, none⟩ = some (.slice A279_8 ((rd_T66 l1 x5_1).f8).length c279_8)) (ds := []) #[false, false, false, false, false, false, false, false, false, false] (by kernel_rfl) rfl rfl ⟨(ck HB hw278_0), (ck HB hw278_1), (ck HB hw278_2), (ck HB hw278_3), (ck HB hw278_4), (ck HB hw278_5), (ck HB hw278_6), (ck HB hw278_7), (ck HB hw278_8), (ck HB hw279_0), (ck HB hw279_1), (ck HB hw279_2), (ck HB hw279_3), (ck HB hw279_4), (ck HB hw279_5), (ck HB hw279_6), (ck HB hw279_7), (ck HB hw279_8)⟩ (fun hHeld => ?_); refine with_tabW laws_eqInstrS.tab6 laws_eqInstrS.bits6 (fun HT_ HW_ => ?_)
             generalize wr.drew = w9 at HB HR278_6 HR278_7 HR278_8 HR279_6 HR279_7 HR279_8 hx278_0 hx278_1 hx278_2 hx278_3 hx278_4 hx278_5 hx278_6 hx278_7 hx278_8 hx279_0 hx279_1 hx279_2 hx279_3 hx279_4 hx279_5 hx279_6 hx279_7 hx279_8 hHeld ⊢
             refine pure_ (i := 0) (N := some 17) (v := ?_) (a' := ?_) #[true, false, false, false, false, false, false, false, false, false] rfl rfl (any_of HT_.out (by kernel_rfl)) (fun _ _ _ h => h) (Or.inl ⟨by rfl, ?_⟩) ?_ ?_
             rotate_left
             · intro w'
               go_simp
               with_reducible rfl
             rotate_left
             · simp only [Act.put, sx1, sx2, sx3, i64_w, i32_w]
               rfl
             refine pure_ (i := 1) (N := some 18) (v := ?_) (a' := ?_) #[true, true, false, false, false, false, false, false, false, false] rfl rfl (any_of HT_.out (by kernel_rfl)) (fun _ _ _ h => h) (Or.inl ⟨by rfl, ?_⟩) ?_ ?_
             rotate_left
             · intro w'
               go_simp
               with_reducible rfl
             rotate_left
             · simp only [Act.put, sx1, sx2, sx3, i64_w, i32_w]
               rfl
             refine pure_ (i := 2) (N := some 19) (v := ?_) (a' := ?_) #[true, true, true, false, false, false, false, false, false, false] rfl rfl (any_of HT_.out (by kernel_rfl)) (fun _ _ _ h => h) (Or.inl ⟨by rfl, ?_⟩) ?_ ?_
             rotate_left
             · intro w'
               go_simp
               with_reducible rfl
             rotate_left
             · simp only [Act.put, sx1, sx2, sx3, i64_w, i32_w]
               rfl
             refine pure_ (i := 4) (N := some 21) (v := ?_) (a' := ?_) #[true, true, true, false, true, false, false, false, false, false] rfl rfl (any_of HT_.out (by kernel_rfl)) (fun _ _ _ h => h) (Or.inl ⟨by rfl, ?_⟩) ?_ ?_
             rotate_left
             · intro w'
               go_simp
               with_reducible rfl
             rotate_left
             · simp only [Act.put, sx1, sx2, sx3, i64_w, i32_w]
               rfl
             refine pure_ (i := 5) (N := some 22) (v := ?_) (a' := ?_) #[true, true, true, false, true, true, false, false, false, false] rfl rfl (any_of HT_.out (by kernel_rfl)) (fun _ _ _ h => h) (Or.inl ⟨by rfl, ?_⟩) ?_ ?_
             rotate_left
             · intro w'
               go_simp
               with_reducible rfl
             rotate_left
             · simp only [Act.put, sx1, sx2, sx3, i64_w, i32_w]
               rfl
             refine pure_ (i := 6) (N := some 23) (v := ?_) (a' := ?_) #[true, true, true, false, true, true, true, false, false, false] rfl rfl (any_of HT_.out (by kernel_rfl)) (fun _ _ _ h => h) (Or.inl ⟨by rfl, ?_⟩) ?_ ?_
             rotate_left
             · intro w'
               go_simp
               with_reducible rfl
             rotate_left
             · simp only [Act.put, sx1, sx2, sx3, i64_w, i32_w]
               rfl
             refine take_ (i := 3) (N := some 20) (v := ?_) (a' := ?_) #[true, true, true, true, true, true, true, false, false, false] rfl rfl (take_ofW HT_.out HW_.out (by kernel_rfl)) (fun _ _ _ h => h) (Or.inl ⟨by rfl, ?_⟩) hHeld ?_ ?_
             rotate_left
             · rintro w' ⟨s0, s1, s2, s3, s4, s5, s6, s7, s8, s9, s10, s11, s12, s13, s14, s15, s16, s17⟩
               go_simp
               with_reducible rfl
             rotate_left
             · simp only [Act.put, sx1, sx2, sx3, i64_w, i32_w]
               rfl
             refine take_ (i := 7) (N := some 24) (v := ?_) (a' := ?_) #[true, true, true, true, true, true, true, true, false, false] rfl rfl (take_ofW HT_.out HW_.out (by kernel_rfl)) (fun _ _ _ h => h) (Or.inl ⟨by rfl, ?_⟩) hHeld ?_ ?_
             rotate_left
             · rintro w' ⟨s0, s1, s2, s3, s4, s5, s6, s7, s8, s9, s10, s11, s12, s13, s14, s15, s16, s17⟩
               go_simp
               with_reducible rfl
             rotate_left
             · simp only [Act.put, sx1, sx2, sx3, i64_w, i32_w]
               rfl
             refine one_ (i := 8) (N := some 25) #[true, true, true, true, true, true, true, true, true, false] rfl rfl (one_of HT_.out (by kernel_rfl)) (by decide) (fun K hK => ?_)
             refine goes_ Try.func109 (by kernel_rfl) rfl #[.agg #[.int .i64 ((rd_T66 l0 x5_1).f0), .int .i64 ((rd_T66 l0 x5_1).f1), .int .i64 ((rd_T66 l0 x5_1).f2), .int .i64 ((rd_T66 l0 x5_1).f3), .int .i64 ((rd_T66 l0 x5_1).f4), .int .i64 ((rd_T66 l0 x5_1).f5), .slice A278_6 ((rd_T66 l0 x5_1).f6).length c278_6, .slice A278_7 ((rd_T66 l0 x5_1).f7).length c278_7, .slice A278_8 ((rd_T66 l0 x5_1).f8).length c278_8], .agg #[.int .i64 ((rd_T66 l1 x5_1).f0), .int .i64 ((rd_T66 l1 x5_1).f1), .int .i64 ((rd_T66 l1 x5_1).f2), .int .i64 ((rd_T66 l1 x5_1).f3), .int .i64 ((rd_T66 l1 x5_1).f4), .int .i64 ((rd_T66 l1 x5_1).f5), .slice A279_6 ((rd_T66 l1 x5_1).f6).length c279_6, .slice A279_7 ((rd_T66 l1 x5_1).f7).length c279_7, .slice A279_8 ((rd_T66 l1 x5_1).f8).length c279_8]] (by rfl) rfl rfl lz ?_
             with_reducible refine (laws_eqInstr.calls k1 ((rd_T66 l0 x5_1).f0) ((rd_T66 l0 x5_1).f1) ((rd_T66 l0 x5_1).f2) ((rd_T66 l0 x5_1).f3) ((rd_T66 l0 x5_1).f4) ((rd_T66 l0 x5_1).f5) _ _ ((rd_T66 l0 x5_1).f6) _ _ ((rd_T66 l0 x5_1).f7) _ _ ((rd_T66 l0 x5_1).f8) ((rd_T66 l1 x5_1).f0) ((rd_T66 l1 x5_1).f1) ((rd_T66 l1 x5_1).f2) ((rd_T66 l1 x5_1).f3) ((rd_T66 l1 x5_1).f4) ((rd_T66 l1 x5_1).f5) _ _ ((rd_T66 l1 x5_1).f6) _ _ ((rd_T66 l1 x5_1).f7) _ _ ((rd_T66 l1 x5_1).f8) true _ ?side1 ?side2 ?side3 ?side4 ?side5 ?side6 ?side7 ?side8 ?side9 ?side10 ?side11 ?side12 A7.out).mono ?_
             (case side1 => exact cz HR278_6.out)
             (case side2 => exact HC278_6.out)
             (case side3 => exact cz HR278_7.out)
             (case side4 => exact HC278_7.out)
             (case side5 => exact cz HR278_8.out)
             (case side6 => exact HC278_8.out)
             (case side7 => exact cz HR279_6.out)
             (case side8 => exact HC279_6.out)
             (case side9 => exact cz HR279_7.out)
             (case side10 => exact HC279_7.out)
             (case side11 => exact cz HR279_8.out)
             (case side12 => exact HC279_8.out)
             rintro e w10 ⟨rfl, hb⟩
             refine ⟨_, rfl, ?_⟩
             have n0_ := Aside0.mk (below_step bz hb)
             clear HB
             have HB := n0_
             clear n0_
             (try clear hb)
             (try clear hb2)
             (try clear hk)
             (try clear hi)
             refine hK.out _ _ ⟨(ck HB hw278_0), (ck HB hw278_1), (ck HB hw278_2), (ck HB hw278_3), (ck HB hw278_4), (ck HB hw278_5), (ck HB hw278_6), (ck HB hw278_7), (ck HB hw278_8), (ck HB hw279_0), (ck HB hw279_1), (ck HB hw279_2), (ck HB hw279_3), (ck HB hw279_4), (ck HB hw279_5), (ck HB hw279_6), (ck HB hw279_7), (ck HB hw279_8)⟩ (fun hHeld => ?_)
             clear hK K
             refine norm_ (a' := ?_) ?_ ?_
             rotate_left
             · show Act.put _ (some 25) _ = _
               simp only [Act.put, sx1, sx2, sx3, i64_w, i32_w]
               rfl
             refine pure_ (i := 9) (N := some 26) (v := ?_) (a' := ?_) #[true, true, true, true, true, true, true, true, true, true] rfl rfl (any_of HT_.out (by kernel_rfl)) (fun _ _ _ h => h) (Or.inl ⟨by rfl, ?_⟩) ?_ ?_
             rotate_left
             · intro w'
               go_simp
               with_reducible rfl
             rotate_left
             · simp only [Act.put, sx1, sx2, sx3, i64_w, i32_w]
               rfl
             refine done_ (done_of HT_.out (by kernel_rfl)) ?_
             try go_wp2
             go_roundg k1
             case measure => have := HK1.out; omega
             case rel => exact ⟨(wrap64 (x5_1 + 1)), sz_, H', ⟨by have := HK1.out; omega⟩, ⟨ bz⟩⟩
           · replace c8 := Bool.eq_false_iff.mpr c8
             subst c8
             have H1 : (some false) = some r := by rw [if_neg (show ¬ (false = true) by decide)] at H; exact H
             clear H
             have H := H1
             clear H1
             obtain rfl := Option.some.inj H
             try go_wp2
             have n0_ := Aside0.mk (below_drew1 HB.out)
             clear HB
             have HB := n0_
             clear n0_
             have p278 : 0 ≤ (x5_1 : Int) := of_decide_eq_true az
             have q278 : x5_1 < (l0.length : Int) := of_decide_eq_true az
             obtain ⟨ad278, A278_6, c278_6, A278_7, c278_7, A278_8, c278_8, e278, hx278_0, hx278_1, hx278_2, hx278_3, hx278_4, hx278_5, hx278_6, hx278_7, hx278_8, hl278_6, hi278_6, hl278_7, hi278_7, hl278_8, hi278_8⟩ := at_T66 HR0.out x5_1 p278 q278
             have hw278_8 := hx278_8
             have hw278_7 := hx278_7
             have hw278_6 := hx278_6
             have hw278_5 := hx278_5
             have hw278_4 := hx278_4
             have hw278_3 := hx278_3
             have hw278_2 := hx278_2
             have hw278_1 := hx278_1
             have hw278_0 := hx278_0
             cases e278
             replace hx278_0 := ck HB hx278_0
             replace hx278_1 := ck HB hx278_1
             replace hx278_2 := ck HB hx278_2
             replace hx278_3 := ck HB hx278_3
             replace hx278_4 := ck HB hx278_4
             replace hx278_5 := ck HB hx278_5
             replace hx278_6 := ck HB hx278_6
             replace hx278_7 := ck HB hx278_7
             replace hx278_8 := ck HB hx278_8
             have HR278_6 := Aside0.mk hi278_6
             have HC278_6 := Aside0.mk hl278_6
             clear hi278_6 hl278_6
             have HR278_7 := Aside0.mk hi278_7
             have HC278_7 := Aside0.mk hl278_7
             clear hi278_7 hl278_7
             have HR278_8 := Aside0.mk hi278_8
             have HC278_8 := Aside0.mk hl278_8
             clear hi278_8 hl278_8
             replace p278 := eq_true p278
             replace q278 := eq_true q278
             have p279 : 0 ≤ (x5_1 : Int) := of_decide_eq_true az
             have q279 : x5_1 < (l1.length : Int) := of_decide_eq_true az
             obtain ⟨ad279, A279_6, c279_6, A279_7, c279_7, A279_8, c279_8, e279, hx279_0, hx279_1, hx279_2, hx279_3, hx279_4, hx279_5, hx279_6, hx279_7, hx279_8, hl279_6, hi279_6, hl279_7, hi279_7, hl279_8, hi279_8⟩ := at_T66 HR1.out x5_1 p279 q279
             have hw279_8 := hx279_8
             have hw279_7 := hx279_7
             have hw279_6 := hx279_6
             have hw279_5 := hx279_5
             have hw279_4 := hx279_4
             have hw279_3 := hx279_3
             have hw279_2 := hx279_2
             have hw279_1 := hx279_1
             have hw279_0 := hx279_0
             cases e279
             replace hx279_0 := ck HB hx279_0
             replace hx279_1 := ck HB hx279_1
             replace hx279_2 := ck HB hx279_2
             replace hx279_3 := ck HB hx279_3
             replace hx279_4 := ck HB hx279_4
             replace hx279_5 := ck HB hx279_5
             replace hx279_6 := ck HB hx279_6
             replace hx279_7 := ck HB hx279_7
             replace hx279_8 := ck HB hx279_8
             have HR279_6 := Aside0.mk hi279_6
             have HC279_6 := Aside0.mk hl279_6
             clear hi279_6 hl279_6
             have HR279_7 := Aside0.mk hi279_7
             have HC279_7 := Aside0.mk hl279_7
             clear hi279_7 hl279_7
             have HR279_8 := Aside0.mk hi279_8
             have HC279_8 := Aside0.mk hl279_8
             clear hi279_8 hl279_8
             replace p279 := eq_true p279
             replace q279 := eq_true q279
             refine start_ (n := 10) (S := fun w' => w'.cell? (ad278.add ((x5_1).toNat * 9)) = some (.int .i64 ((rd_T66 l0 x5_1).f0)) ∧ w'.cell? ⟨(ad278.add ((x5_1).toNat * 9)).block, (ad278.add ((x5_1).toNat * 9)).off + 1, none⟩ = some (.int .i64 ((rd_T66 l0 x5_1).f1)) ∧ w'.cell? ⟨(ad278.add ((x5_1).toNat * 9)).block, (ad278.add ((x5_1).toNat * 9)).off + 2, none⟩ = some (.int .i64 ((rd_T66 l0 x5_1).f2)) ∧ w'.cell? ⟨(ad278.add ((x5_1).toNat * 9)).block, (ad278.add ((x5_1).toNat * 9)).off + 3, none⟩ = some (.int .i64 ((rd_T66 l0 x5_1).f3)) ∧ w'.cell? ⟨(ad278.add ((x5_1).toNat * 9)).block, (ad278.add ((x5_1).toNat * 9)).off + 4, none⟩ = some (.int .i64 ((rd_T66 l0 x5_1).f4)) ∧ w'.cell? ⟨(ad278.add ((x5_1).toNat * 9)).block, (ad278.add ((x5_1).toNat * 9)).off + 5, none⟩ = some (.int .i64 ((rd_T66 l0 x5_1).f5)) ∧ w'.cell? ⟨(ad278.add ((x5_1).toNat * 9)).block, (ad278.add ((x5_1).toNat * 9)).off + 6, none⟩ = some (.slice A278_6 ((rd_T66 l0 x5_1).f6).length c278_6) ∧ w'.cell? ⟨(ad278.add ((x5_1).toNat * 9)).block, (ad278.add ((x5_1).toNat * 9)).off + 7, none⟩ = some (.slice A278_7 ((rd_T66 l0 x5_1).f7).length c278_7) ∧ w'.cell? ⟨(ad278.add ((x5_1).toNat * 9)).block, (ad278.add ((x5_1).toNat * 9)).off + 8, none⟩ = some (.slice A278_8 ((rd_T66 l0 x5_1).f8).length c278_8) ∧ w'.cell? (ad279.add ((x5_1).toNat * 9)) = some (.int .i64 ((rd_T66 l1 x5_1).f0)) ∧ w'.cell? ⟨(ad279.add ((x5_1).toNat * 9)).block, (ad279.add ((x5_1).toNat * 9)).off + 1, none⟩ = some (.int .i64 ((rd_T66 l1 x5_1).f1)) ∧ w'.cell? ⟨(ad279.add ((x5_1).toNat * 9)).block, (ad279.add ((x5_1).toNat * 9)).off + 2, none⟩ = some (.int .i64 ((rd_T66 l1 x5_1).f2)) ∧ w'.cell? ⟨(ad279.add ((x5_1).toNat * 9)).block, (ad279.add ((x5_1).toNat * 9)).off + 3, none⟩ = some (.int .i64 ((rd_T66 l1 x5_1).f3)) ∧ w'.cell? ⟨(ad279.add ((x5_1).toNat * 9)).block, (ad279.add ((x5_1).toNat * 9)).off + 4, none⟩ = some (.int .i64 ((rd_T66 l1 x5_1).f4)) ∧ w'.cell? ⟨(ad279.add ((x5_1).toNat * 9)).block, (ad279.add ((x5_1).toNat * 9)).off + 5, none⟩ = some (.int .i64 ((rd_T66 l1 x5_1).f5)) ∧ w'.cell? ⟨(ad279.add ((x5_1).toNat * 9)).block, (ad279.add ((x5_1).toNat * 9)).off + 6, none⟩ = some (.slice A279_6 ((rd_T66 l1 x5_1).f6).length c279_6) ∧ w'.cell? ⟨(ad279.add ((x5_1).toNat * 9)).block, (ad279.add ((x5_1).toNat * 9)).off + 7, none⟩ = some (.slice A279_7 ((rd_T66 l1 x5_1).f7).length c279_7) ∧ w'.cell? ⟨(ad279.add ((x5_1).toNat * 9)).block, (ad279.add ((x5_1).toNat * 9)).off + 8, none⟩ = some (.slice A279_8 ((rd_T66 l1 x5_1).f8).length c279_8)) (ds := []) #[false, false, false, false, false, false, false, false, false, false] (by kernel_rfl) rfl rfl ⟨(ck HB hw278_0), (ck HB hw278_1), (ck HB hw278_2), (ck HB hw278_3), (ck HB hw278_4), (ck HB hw278_5), (ck HB hw278_6), (ck HB hw278_7), (ck HB hw278_8), (ck HB hw279_0), (ck HB hw279_1), (ck HB hw279_2), (ck HB hw279_3), (ck HB hw279_4), (ck HB hw279_5), (ck HB hw279_6), (ck HB hw279_7), (ck HB hw279_8)⟩ (fun hHeld => ?_); refine with_tabW laws_eqInstrS.tab6 laws_eqInstrS.bits6 (fun HT_ HW_ => ?_)
             generalize wr.drew = w11 at HB HR278_6 HR278_7 HR278_8 HR279_6 HR279_7 HR279_8 hx278_0 hx278_1 hx278_2 hx278_3 hx278_4 hx278_5 hx278_6 hx278_7 hx278_8 hx279_0 hx279_1 hx279_2 hx279_3 hx279_4 hx279_5 hx279_6 hx279_7 hx279_8 hHeld ⊢
             refine pure_ (i := 0) (N := some 17) (v := ?_) (a' := ?_) #[true, false, false, false, false, false, false, false, false, false] rfl rfl (any_of HT_.out (by kernel_rfl)) (fun _ _ _ h => h) (Or.inl ⟨by rfl, ?_⟩) ?_ ?_
             rotate_left
             · intro w'
               go_simp
               with_reducible rfl
             rotate_left
             · simp only [Act.put, sx1, sx2, sx3, i64_w, i32_w]
               rfl
             refine pure_ (i := 1) (N := some 18) (v := ?_) (a' := ?_) #[true, true, false, false, false, false, false, false, false, false] rfl rfl (any_of HT_.out (by kernel_rfl)) (fun _ _ _ h => h) (Or.inl ⟨by rfl, ?_⟩) ?_ ?_
             rotate_left
             · intro w'
               go_simp
               with_reducible rfl
             rotate_left
             · simp only [Act.put, sx1, sx2, sx3, i64_w, i32_w]
               rfl
             refine pure_ (i := 2) (N := some 19) (v := ?_) (a' := ?_) #[true, true, true, false, false, false, false, false, false, false] rfl rfl (any_of HT_.out (by kernel_rfl)) (fun _ _ _ h => h) (Or.inl ⟨by rfl, ?_⟩) ?_ ?_
             rotate_left
             · intro w'
               go_simp
               with_reducible rfl
             rotate_left
             · simp only [Act.put, sx1, sx2, sx3, i64_w, i32_w]
               rfl
             refine pure_ (i := 4) (N := some 21) (v := ?_) (a' := ?_) #[true, true, true, false, true, false, false, false, false, false] rfl rfl (any_of HT_.out (by kernel_rfl)) (fun _ _ _ h => h) (Or.inl ⟨by rfl, ?_⟩) ?_ ?_
             rotate_left
             · intro w'
               go_simp
               with_reducible rfl
             rotate_left
             · simp only [Act.put, sx1, sx2, sx3, i64_w, i32_w]
               rfl
             refine pure_ (i := 5) (N := some 22) (v := ?_) (a' := ?_) #[true, true, true, false, true, true, false, false, false, false] rfl rfl (any_of HT_.out (by kernel_rfl)) (fun _ _ _ h => h) (Or.inl ⟨by rfl, ?_⟩) ?_ ?_
             rotate_left
             · intro w'
               go_simp
               with_reducible rfl
             rotate_left
             · simp only [Act.put, sx1, sx2, sx3, i64_w, i32_w]
               rfl
             refine pure_ (i := 6) (N := some 23) (v := ?_) (a' := ?_) #[true, true, true, false, true, true, true, false, false, false] rfl rfl (any_of HT_.out (by kernel_rfl)) (fun _ _ _ h => h) (Or.inl ⟨by rfl, ?_⟩) ?_ ?_
             rotate_left
             · intro w'
               go_simp
               with_reducible rfl
             rotate_left
             · simp only [Act.put, sx1, sx2, sx3, i64_w, i32_w]
               rfl
             refine take_ (i := 3) (N := some 20) (v := ?_) (a' := ?_) #[true, true, true, true, true, true, true, false, false, false] rfl rfl (take_ofW HT_.out HW_.out (by kernel_rfl)) (fun _ _ _ h => h) (Or.inl ⟨by rfl, ?_⟩) hHeld ?_ ?_
             rotate_left
             · rintro w' ⟨s0, s1, s2, s3, s4, s5, s6, s7, s8, s9, s10, s11, s12, s13, s14, s15, s16, s17⟩
               go_simp
               with_reducible rfl
             rotate_left
             · simp only [Act.put, sx1, sx2, sx3, i64_w, i32_w]
               rfl
             refine take_ (i := 7) (N := some 24) (v := ?_) (a' := ?_) #[true, true, true, true, true, true, true, true, false, false] rfl rfl (take_ofW HT_.out HW_.out (by kernel_rfl)) (fun _ _ _ h => h) (Or.inl ⟨by rfl, ?_⟩) hHeld ?_ ?_
             rotate_left
             · rintro w' ⟨s0, s1, s2, s3, s4, s5, s6, s7, s8, s9, s10, s11, s12, s13, s14, s15, s16, s17⟩
               go_simp
               with_reducible rfl
             rotate_left
             · simp only [Act.put, sx1, sx2, sx3, i64_w, i32_w]
               rfl
             refine one_ (i := 8) (N := some 25) #[true, true, true, true, true, true, true, true, true, false] rfl rfl (one_of HT_.out (by kernel_rfl)) (by decide) (fun K hK => ?_)
             refine goes_ Try.func109 (by kernel_rfl) rfl #[.agg #[.int .i64 ((rd_T66 l0 x5_1).f0), .int .i64 ((rd_T66 l0 x5_1).f1), .int .i64 ((rd_T66 l0 x5_1).f2), .int .i64 ((rd_T66 l0 x5_1).f3), .int .i64 ((rd_T66 l0 x5_1).f4), .int .i64 ((rd_T66 l0 x5_1).f5), .slice A278_6 ((rd_T66 l0 x5_1).f6).length c278_6, .slice A278_7 ((rd_T66 l0 x5_1).f7).length c278_7, .slice A278_8 ((rd_T66 l0 x5_1).f8).length c278_8], .agg #[.int .i64 ((rd_T66 l1 x5_1).f0), .int .i64 ((rd_T66 l1 x5_1).f1), .int .i64 ((rd_T66 l1 x5_1).f2), .int .i64 ((rd_T66 l1 x5_1).f3), .int .i64 ((rd_T66 l1 x5_1).f4), .int .i64 ((rd_T66 l1 x5_1).f5), .slice A279_6 ((rd_T66 l1 x5_1).f6).length c279_6, .slice A279_7 ((rd_T66 l1 x5_1).f7).length c279_7, .slice A279_8 ((rd_T66 l1 x5_1).f8).length c279_8]] (by rfl) rfl rfl lz ?_
             with_reducible refine (laws_eqInstr.calls k1 ((rd_T66 l0 x5_1).f0) ((rd_T66 l0 x5_1).f1) ((rd_T66 l0 x5_1).f2) ((rd_T66 l0 x5_1).f3) ((rd_T66 l0 x5_1).f4) ((rd_T66 l0 x5_1).f5) _ _ ((rd_T66 l0 x5_1).f6) _ _ ((rd_T66 l0 x5_1).f7) _ _ ((rd_T66 l0 x5_1).f8) ((rd_T66 l1 x5_1).f0) ((rd_T66 l1 x5_1).f1) ((rd_T66 l1 x5_1).f2) ((rd_T66 l1 x5_1).f3) ((rd_T66 l1 x5_1).f4) ((rd_T66 l1 x5_1).f5) _ _ ((rd_T66 l1 x5_1).f6) _ _ ((rd_T66 l1 x5_1).f7) _ _ ((rd_T66 l1 x5_1).f8) false _ ?side1 ?side2 ?side3 ?side4 ?side5 ?side6 ?side7 ?side8 ?side9 ?side10 ?side11 ?side12 A7.out).mono ?_
             (case side1 => exact cz HR278_6.out)
             (case side2 => exact HC278_6.out)
             (case side3 => exact cz HR278_7.out)
             (case side4 => exact HC278_7.out)
             (case side5 => exact cz HR278_8.out)
             (case side6 => exact HC278_8.out)
             (case side7 => exact cz HR279_6.out)
             (case side8 => exact HC279_6.out)
             (case side9 => exact cz HR279_7.out)
             (case side10 => exact HC279_7.out)
             (case side11 => exact cz HR279_8.out)
             (case side12 => exact HC279_8.out)
             rintro e w12 ⟨rfl, hb⟩
             refine ⟨_, rfl, ?_⟩
             have n0_ := Aside0.mk (below_step bz hb)
             clear HB
             have HB := n0_
             clear n0_
             (try clear hb)
             (try clear hb2)
             (try clear hk)
             (try clear hi)
             refine hK.out _ _ ⟨(ck HB hw278_0), (ck HB hw278_1), (ck HB hw278_2), (ck HB hw278_3), (ck HB hw278_4), (ck HB hw278_5), (ck HB hw278_6), (ck HB hw278_7), (ck HB hw278_8), (ck HB hw279_0), (ck HB hw279_1), (ck HB hw279_2), (ck HB hw279_3), (ck HB hw279_4), (ck HB hw279_5), (ck HB hw279_6), (ck HB hw279_7), (ck HB hw279_8)⟩ (fun hHeld => ?_)
             clear hK K
             refine norm_ (a' := ?_) ?_ ?_
             rotate_left
             · show Act.put _ (some 25) _ = _
               simp only [Act.put, sx1, sx2, sx3, i64_w, i32_w]
               rfl
             refine pure_ (i := 9) (N := some 26) (v := ?_) (a' := ?_) #[true, true, true, true, true, true, true, true, true, true] rfl rfl (any_of HT_.out (by kernel_rfl)) (fun _ _ _ h => h) (Or.inl ⟨by rfl, ?_⟩) ?_ ?_
             rotate_left
             · intro w'
               go_simp
               with_reducible rfl
             rotate_left
             · simp only [Act.put, sx1, sx2, sx3, i64_w, i32_w]
               rfl
             refine done_ (done_of HT_.out (by kernel_rfl)) ?_
             try go_wp2
             go_ret
             exact ⟨by first | rfl | (simp [errW_none, errW_some] <;> rfl) | (simp [*, errW_none, errW_some] <;> rfl), bz⟩
         · rw [if_neg c6] at H
           exact absurd H (by simp)
       · rw [if_neg c5] at H
         exact absurd H (by simp)
     · rw [if_neg c4] at H
       have c4b0 : decide (x5_1 < (l0.length : Int)) = false := decide_eq_false c4
       clear c4
       obtain rfl := Option.some.inj H
       go_wp2
       go_ret
       exact ⟨by first | rfl | (simp [errW_none, errW_some] <;> rfl) | (simp [*, errW_none, errW_some] <;> rfl), bz⟩
 · rw [if_neg c3] at H
   have c3b0 : ((l0.length : Int) == (l1.length : Int)) = false := beq_eq_false_iff_ne.mpr c3
   have c3b1 : ((l0.length : Int) != (l1.length : Int)) = true := bne_iff_ne.mpr c3
   have c3b2 : (l0.length == l1.length) = false := by first | simpa using c3 | (simp at c3 ⊢; omega)
   obtain rfl := Option.some.inj H
   go_enter Try.func83, Try.ntmps83
   go_wp2
   go_ret
   exact ⟨by first | rfl | (simp [errW_none, errW_some] <;> rfl) | (simp [*, errW_none, errW_some] <;> rfl), bz⟩

set_option linter.unusedVariables false
set_option linter.unusedSimpArgs false

def laws_eqBlock.f (k : Nat) (l0_0 : List (S66)) (l1_0 : List (S66)) : Option (Bool) := (laws_eqInstrS.f k l0_0 l1_0).bind fun t283 => (if t283 = true then (some true) else (some false))
set_option maxHeartbeats 8000000 in
set_option maxRecDepth 100000 in
theorem laws_eqBlock.calls (k : Nat) (A0_0 : Option Addr) (c0_0 : Nat) (l0_0 : List (S66)) (A1_0 : Option Addr) (c1_0 : Nat) (l1_0 : List (S66)) (r : Bool) (w : World) (hr0_0 : Kd.C k66 w A0_0 l0_0.length l0_0) (hc0_0 : l0_0.length ≤ c0_0) (hr1_0 : Kd.C k66 w A1_0 l1_0.length l1_0) (hc1_0 : l1_0.length ≤ c1_0) (h : laws_eqBlock.f k l0_0 l1_0 = some r) :
 Calls Try.prog 71 #[.agg #[.slice A0_0 l0_0.length c0_0], .agg #[.slice A1_0 l1_0.length c1_0]] w fun e w' => e = .returned (.bool r) ∧ Below w.heap.size w w' := by
 have hu62 := Try.underlying62
 have HR0_0 := Aside0.mk hr0_0
 have HC0_0 := Aside0.mk hc0_0
 clear hr0_0 hc0_0
 have HR1_0 := Aside0.mk hr1_0
 have HC1_0 := Aside0.mk hc1_0
 clear hr1_0 hc1_0
 have HB := Aside0.mk (Below.refl w.heap.size w)
 have H : ((laws_eqInstrS.f k l0_0 l1_0).bind fun t283 => (if t283 = true then (some true) else (some false))) = some r := h
 clear h
 replace H := Option.bind_eq_some_iff.mp H
 obtain ⟨t283, A30, H⟩ := H
 replace H : (if t283 = true then (some true) else (some false)) = some r := H
 have A3 := Aside0.mk A30
 clear A30
 by_cases c4 : t283 = true
 · subst c4
   have H1 : (some true) = some r := by rw [if_pos rfl] at H; exact H
   clear H
   have H := H1
   clear H1
   obtain rfl := Option.some.inj H
   go_enter Try.func71, Try.ntmps71
   go_wp2_with (first | ((with_reducible refine gate_dst (N := 2) rfl ?_); refine box_event ?hg (N := 2) ?hd (cs := #[.slice A0_0 l0_0.length c0_0]) (t := 62) ?hr ?_; (case hd => rfl); (case hg => rfl); (case hr => first | (go_simp; done) | (go_simp; rfl)); intro gb281 hg w5 hbox hb; have n0_ := Aside0.mk (below_step bz hb); have n1_ := Aside0.mk (hbox); have n2_ := Aside0.mk ((by rw [hg]; exact (below_size bz) : w.heap.size ≤ gb281)); have n3_ := Aside0.mk ((by rw [hg]; exact (below_size bz) : w.heap.size ≤ gb281)); clear HB; have HB := n0_; have BK281 := n1_; have GW281 := n2_; have GE281 := n3_; clear n0_ n1_ n2_ n3_; clear hb hbox hg) | ((with_reducible refine gate_dst (N := 3) rfl ?_); refine box_event ?hg (N := 3) ?hd (cs := #[.slice A1_0 l1_0.length c1_0]) (t := 62) ?hr ?_; (case hd => rfl); (case hg => rfl); (case hr => first | (go_simp; done) | (go_simp; rfl)); intro gb282 hg w6 hbox hb; have n0_ := Aside0.mk (blk_below (g := gb281) (o := .cells #[.slice A0_0 l0_0.length c0_0] 62 (0, 0)) kz hb); have n1_ := Aside0.mk (below_step bz hb); have n2_ := Aside0.mk (hbox); have n3_ := Aside0.mk ((by rw [hg]; exact (below_size bz) : w.heap.size ≤ gb282)); have n4_ := Aside0.mk ((by rw [hg]; exact (below_size bz) : w.heap.size ≤ gb282)); have n5_ := Aside0.mk ((by rw [hg]; exact Nat.ne_of_lt (blk_lt (g := gb281) (o := .cells #[.slice A0_0 l0_0.length c0_0] 62 (0, 0)) kz) : gb281 ≠ gb282)); have n6_ := Aside0.mk ((by rw [hg]; exact Nat.ne_of_gt (blk_lt (g := gb281) (o := .cells #[.slice A0_0 l0_0.length c0_0] 62 (0, 0)) kz) : gb282 ≠ gb281)); clear BK281; clear HB; have BK281 := n0_; have HB := n1_; have BK282 := n2_; have GW282 := n3_; have GE282 := n4_; have NB281_282 := n5_; have NB282_281 := n6_; clear n0_ n1_ n2_ n3_ n4_ n5_ n6_; clear hb hbox hg; have hnb7 := NB281_282.out; have hnc7 := NB282_281.out; have hcz8_0 : w6.cell? ⟨gb281, 0, none⟩ = some (.slice A0_0 l0_0.length c0_0) := (blk_cell BK281.out 0).trans rfl; have hfz8_0 := blk_frozen BK281.out 0; have hcz9_0 : w6.cell? ⟨gb282, 0, none⟩ = some (.slice A1_0 l1_0.length c1_0) := (blk_cell BK282.out 0).trans rfl; have hfz9_0 := blk_frozen BK282.out 0) | ((with_reducible refine gate_callee (f := 83) rfl ?_); refine goesL_ (some 9) rfl rfl Try.func83 (by kernel_rfl) rfl #[.slice A0_0 l0_0.length c0_0, .slice A1_0 l1_0.length c1_0] rfl lz ?_; (with_reducible refine (laws_eqInstrS.calls k _ _ l0_0 _ _ l1_0 true _ ?side1 ?side2 ?side3 ?side4 A3.out).mono ?_); (case side1 => exact cz HR0_0.out); (case side2 => exact HC0_0.out); (case side3 => exact cz HR1_0.out); (case side4 => exact HC1_0.out); rintro e w10 ⟨rfl, hb⟩; refine ⟨_, rfl, ?_⟩; have n0_ := Aside0.mk (blk_below (g := gb281) (o := .cells #[.slice A0_0 l0_0.length c0_0] 62 (0, 0)) kz hb); have n1_ := Aside0.mk (blk_below (g := gb282) (o := .cells #[.slice A1_0 l1_0.length c1_0] 62 (0, 0)) kz hb); have n2_ := Aside0.mk (below_step bz hb); clear BK281; clear BK282; clear HB; have BK281 := n0_; have BK282 := n1_; have HB := n2_; clear n0_ n1_ n2_; (try clear hb); (try clear hb2); (try clear hk); (try clear hi)))
   go_ret
   exact ⟨by first | rfl | (simp [errW_none, errW_some] <;> rfl) | (simp [*, errW_none, errW_some] <;> rfl), bz⟩
 · replace c4 := Bool.eq_false_iff.mpr c4
   subst c4
   have H1 : (some false) = some r := by rw [if_neg (show ¬ (false = true) by decide)] at H; exact H
   clear H
   have H := H1
   clear H1
   obtain rfl := Option.some.inj H
   go_enter Try.func71, Try.ntmps71
   go_wp2_with (first | ((with_reducible refine gate_dst (N := 2) rfl ?_); refine box_event ?hg (N := 2) ?hd (cs := #[.slice A0_0 l0_0.length c0_0]) (t := 62) ?hr ?_; (case hd => rfl); (case hg => rfl); (case hr => first | (go_simp; done) | (go_simp; rfl)); intro gb281 hg w11 hbox hb; have n0_ := Aside0.mk (below_step bz hb); have n1_ := Aside0.mk (hbox); have n2_ := Aside0.mk ((by rw [hg]; exact (below_size bz) : w.heap.size ≤ gb281)); have n3_ := Aside0.mk ((by rw [hg]; exact (below_size bz) : w.heap.size ≤ gb281)); clear HB; have HB := n0_; have BK281 := n1_; have GW281 := n2_; have GE281 := n3_; clear n0_ n1_ n2_ n3_; clear hb hbox hg) | ((with_reducible refine gate_dst (N := 3) rfl ?_); refine box_event ?hg (N := 3) ?hd (cs := #[.slice A1_0 l1_0.length c1_0]) (t := 62) ?hr ?_; (case hd => rfl); (case hg => rfl); (case hr => first | (go_simp; done) | (go_simp; rfl)); intro gb282 hg w12 hbox hb; have n0_ := Aside0.mk (blk_below (g := gb281) (o := .cells #[.slice A0_0 l0_0.length c0_0] 62 (0, 0)) kz hb); have n1_ := Aside0.mk (below_step bz hb); have n2_ := Aside0.mk (hbox); have n3_ := Aside0.mk ((by rw [hg]; exact (below_size bz) : w.heap.size ≤ gb282)); have n4_ := Aside0.mk ((by rw [hg]; exact (below_size bz) : w.heap.size ≤ gb282)); have n5_ := Aside0.mk ((by rw [hg]; exact Nat.ne_of_lt (blk_lt (g := gb281) (o := .cells #[.slice A0_0 l0_0.length c0_0] 62 (0, 0)) kz) : gb281 ≠ gb282)); have n6_ := Aside0.mk ((by rw [hg]; exact Nat.ne_of_gt (blk_lt (g := gb281) (o := .cells #[.slice A0_0 l0_0.length c0_0] 62 (0, 0)) kz) : gb282 ≠ gb281)); clear BK281; clear HB; have BK281 := n0_; have HB := n1_; have BK282 := n2_; have GW282 := n3_; have GE282 := n4_; have NB281_282 := n5_; have NB282_281 := n6_; clear n0_ n1_ n2_ n3_ n4_ n5_ n6_; clear hb hbox hg; have hnb13 := NB281_282.out; have hnc13 := NB282_281.out; have hcz14_0 : w12.cell? ⟨gb281, 0, none⟩ = some (.slice A0_0 l0_0.length c0_0) := (blk_cell BK281.out 0).trans rfl; have hfz14_0 := blk_frozen BK281.out 0; have hcz15_0 : w12.cell? ⟨gb282, 0, none⟩ = some (.slice A1_0 l1_0.length c1_0) := (blk_cell BK282.out 0).trans rfl; have hfz15_0 := blk_frozen BK282.out 0) | ((with_reducible refine gate_callee (f := 83) rfl ?_); refine goesL_ (some 9) rfl rfl Try.func83 (by kernel_rfl) rfl #[.slice A0_0 l0_0.length c0_0, .slice A1_0 l1_0.length c1_0] rfl lz ?_; (with_reducible refine (laws_eqInstrS.calls k _ _ l0_0 _ _ l1_0 false _ ?side1 ?side2 ?side3 ?side4 A3.out).mono ?_); (case side1 => exact cz HR0_0.out); (case side2 => exact HC0_0.out); (case side3 => exact cz HR1_0.out); (case side4 => exact HC1_0.out); rintro e w16 ⟨rfl, hb⟩; refine ⟨_, rfl, ?_⟩; have n0_ := Aside0.mk (blk_below (g := gb281) (o := .cells #[.slice A0_0 l0_0.length c0_0] 62 (0, 0)) kz hb); have n1_ := Aside0.mk (blk_below (g := gb282) (o := .cells #[.slice A1_0 l1_0.length c1_0] 62 (0, 0)) kz hb); have n2_ := Aside0.mk (below_step bz hb); clear BK281; clear BK282; clear HB; have BK281 := n0_; have BK282 := n1_; have HB := n2_; clear n0_ n1_ n2_; (try clear hb); (try clear hb2); (try clear hk); (try clear hi)))
   go_ret
   exact ⟨by first | rfl | (simp [errW_none, errW_some] <;> rfl) | (simp [*, errW_none, errW_some] <;> rfl), bz⟩

set_option linter.unusedVariables false
set_option linter.unusedSimpArgs false

def laws_eqBlockS.l0 : Nat → List (S62) → List (S62) → Int → Option (Bool)
 | 0, _, _, _ => none
 | k + 1, x0, x1, x5 => if x5 < (x0.length : Int) then (if 0 ≤ x5 then (if x5 < (x1.length : Int) then ((laws_eqBlock.f k ((rd_T62 x0 x5).f0) ((rd_T62 x1 x5).f0)).bind fun t286 => (if t286 = true then (laws_eqBlockS.l0 k x0 x1 (wrap64 (x5 + 1))) else (some false))) else (none)) else (none)) else (some true)
def laws_eqBlockS.f (k : Nat) (l0 : List (S62)) (l1 : List (S62)) : Option (Bool) := if (l0.length : Int) = (l1.length : Int) then (laws_eqBlockS.l0 k l0 l1 0) else (some false)
def laws_eqBlockS.T6 : Bool × List (List Nat × List Nat) := (true, [([], []), ([], []), ([0, 1], [0, 1]), ([2], [2]), ([], []), ([], []), ([4, 5], [4, 5]), ([6], [6]), ([3, 7], [3, 7]), ([8], [8])])
def laws_eqBlockS.B6 : List Nat := [0, 0, 3, 7, 0, 0, 48, 112, 255, 511]
theorem laws_eqBlockS.tab6 : rtab .any (opsOf Try.f50 6) = laws_eqBlockS.T6 := by kernel_rfl
theorem laws_eqBlockS.bits6 : waitsOk laws_eqBlockS.T6.2 laws_eqBlockS.B6 = true := by kernel_rfl
set_option maxHeartbeats 8000000 in
set_option maxRecDepth 100000 in
theorem laws_eqBlockS.calls (k : Nat) (A0 : Option Addr) (c0 : Nat) (l0 : List (S62)) (A1 : Option Addr) (c1 : Nat) (l1 : List (S62)) (r : Bool) (w : World) (hr0 : Kd.C k62 w A0 l0.length l0) (hc0 : l0.length ≤ c0) (hr1 : Kd.C k62 w A1 l1.length l1) (hc1 : l1.length ≤ c1) (h : laws_eqBlockS.f k l0 l1 = some r) :
 Calls Try.prog 50 #[.slice A0 l0.length c0, .slice A1 l1.length c1] w fun e w' => e = .returned (.bool r) ∧ Below w.heap.size w w' := by
 have hu62 := Try.underlying62
 have HR0 := Aside0.mk hr0
 have HC0 := Aside0.mk hc0
 clear hr0 hc0
 have HR1 := Aside0.mk hr1
 have HC1 := Aside0.mk hc1
 clear hr1 hc1
 have HB := Aside0.mk (Below.refl w.heap.size w)
 have H : (if (l0.length : Int) = (l1.length : Int) then (laws_eqBlockS.l0 k l0 l1 0) else (some false)) = some r := h
 clear h
 by_cases c3 : (l0.length : Int) = (l1.length : Int)
 · rw [if_pos c3] at H
   have c3b0 : ((l0.length : Int) == (l1.length : Int)) = true := beq_iff_eq.mpr c3
   have c3b1 : ((l0.length : Int) != (l1.length : Int)) = false := bne_eq_false_iff_eq.mpr c3
   have c3b2 : (l0.length == l1.length) = true := by first | simpa using c3 | (simp at c3 ⊢; omega)
   clear c3
   have H' := Aside0.mk H
   clear H
   go_enter Try.func50, Try.ntmps50
   go_wp2
   go_loopg [5] k (fun kq v5 w' => ∃ (x5_1 : Int), v5 = .int .i64 x5_1 ∧ Aside0 (laws_eqBlockS.l0 kq l0 l1 x5_1 = some r) ∧ Aside0 (kq ≤ k) ∧ Aside0 (Below w.heap.size w w'))
   case atStart => exact ⟨(0), sz_, H', ⟨Nat.le_refl _⟩, ⟨ bz⟩⟩
   case round =>
    clear H'
    try clear c1
    try clear p2
    try clear c3
    try clear c3b0
    try clear c3b1
    try clear c3b2
    obtain ⟨x5_1, rfl, HA, HK1, HB⟩ := hrel
    cases gk with
    | zero => exact absurd HA.out (by simp [laws_eqBlockS.l0])
    | succ k1 =>
     have H := HA.out
     clear HA
     simp only [laws_eqBlockS.l0] at H
     by_cases c4 : x5_1 < (l0.length : Int)
     · rw [if_pos c4] at H
       have c4b0 : decide (x5_1 < (l0.length : Int)) = true := decide_eq_true c4
       clear c4
       by_cases c5 : 0 ≤ x5_1
       · rw [if_pos c5] at H
         have c5b0 : decide (0 ≤ x5_1) = true := decide_eq_true c5
         clear c5
         by_cases c6 : x5_1 < (l1.length : Int)
         · rw [if_pos c6] at H
           have c6b0 : decide (x5_1 < (l1.length : Int)) = true := decide_eq_true c6
           clear c6
           replace H := Option.bind_eq_some_iff.mp H
           obtain ⟨t286, A70, H⟩ := H
           replace H : (if t286 = true then (laws_eqBlockS.l0 k1 l0 l1 (wrap64 (x5_1 + 1))) else (some false)) = some r := H
           have A7 := Aside0.mk A70
           clear A70
           by_cases c8 : t286 = true
           · subst c8
             have H1 : (laws_eqBlockS.l0 k1 l0 l1 (wrap64 (x5_1 + 1))) = some r := by rw [if_pos rfl] at H; exact H
             clear H
             have H := H1
             clear H1
             have H' := Aside0.mk H
             clear H
             try go_wp2
             have n0_ := Aside0.mk (below_drew1 HB.out)
             clear HB
             have HB := n0_
             clear n0_
             have p284 : 0 ≤ (x5_1 : Int) := of_decide_eq_true az
             have q284 : x5_1 < (l0.length : Int) := of_decide_eq_true az
             obtain ⟨ad284, A284_0, c284_0, e284, hx284_0, hl284_0, hi284_0⟩ := at_T62 HR0.out x5_1 p284 q284
             have hw284_0 := hx284_0
             cases e284
             replace hx284_0 := ck HB hx284_0
             have HR284_0 := Aside0.mk hi284_0
             have HC284_0 := Aside0.mk hl284_0
             clear hi284_0 hl284_0
             replace p284 := eq_true p284
             replace q284 := eq_true q284
             have p285 : 0 ≤ (x5_1 : Int) := of_decide_eq_true az
             have q285 : x5_1 < (l1.length : Int) := of_decide_eq_true az
             obtain ⟨ad285, A285_0, c285_0, e285, hx285_0, hl285_0, hi285_0⟩ := at_T62 HR1.out x5_1 p285 q285
             have hw285_0 := hx285_0
             cases e285
             replace hx285_0 := ck HB hx285_0
             have HR285_0 := Aside0.mk hi285_0
             have HC285_0 := Aside0.mk hl285_0
             clear hi285_0 hl285_0
             replace p285 := eq_true p285
             replace q285 := eq_true q285
             refine start_ (n := 10) (S := fun w' => w'.cell? (ad284.add (x5_1).toNat) = some (.slice A284_0 ((rd_T62 l0 x5_1).f0).length c284_0) ∧ w'.cell? (ad285.add (x5_1).toNat) = some (.slice A285_0 ((rd_T62 l1 x5_1).f0).length c285_0)) (ds := []) #[false, false, false, false, false, false, false, false, false, false] (by kernel_rfl) rfl rfl ⟨(ck HB hw284_0), (ck HB hw285_0)⟩ (fun hHeld => ?_); refine with_tabW laws_eqBlockS.tab6 laws_eqBlockS.bits6 (fun HT_ HW_ => ?_)
             generalize wr.drew = w9 at HB HR284_0 HR285_0 hx284_0 hx285_0 hHeld ⊢
             refine pure_ (i := 0) (N := some 17) (v := ?_) (a' := ?_) #[true, false, false, false, false, false, false, false, false, false] rfl rfl (any_of HT_.out (by kernel_rfl)) (fun _ _ _ h => h) (Or.inl ⟨by rfl, ?_⟩) ?_ ?_
             rotate_left
             · intro w'
               go_simp
               with_reducible rfl
             rotate_left
             · simp only [Act.put, sx1, sx2, sx3, i64_w, i32_w]
               rfl
             refine pure_ (i := 1) (N := some 18) (v := ?_) (a' := ?_) #[true, true, false, false, false, false, false, false, false, false] rfl rfl (any_of HT_.out (by kernel_rfl)) (fun _ _ _ h => h) (Or.inl ⟨by rfl, ?_⟩) ?_ ?_
             rotate_left
             · intro w'
               go_simp
               with_reducible rfl
             rotate_left
             · simp only [Act.put, sx1, sx2, sx3, i64_w, i32_w]
               rfl
             refine pure_ (i := 2) (N := some 19) (v := ?_) (a' := ?_) #[true, true, true, false, false, false, false, false, false, false] rfl rfl (any_of HT_.out (by kernel_rfl)) (fun _ _ _ h => h) (Or.inl ⟨by rfl, ?_⟩) ?_ ?_
             rotate_left
             · intro w'
               go_simp
               with_reducible rfl
             rotate_left
             · simp only [Act.put, sx1, sx2, sx3, i64_w, i32_w]
               rfl
             refine pure_ (i := 4) (N := some 21) (v := ?_) (a' := ?_) #[true, true, true, false, true, false, false, false, false, false] rfl rfl (any_of HT_.out (by kernel_rfl)) (fun _ _ _ h => h) (Or.inl ⟨by rfl, ?_⟩) ?_ ?_
             rotate_left
             · intro w'
               go_simp
               with_reducible rfl
             rotate_left
             · simp only [Act.put, sx1, sx2, sx3, i64_w, i32_w]
               rfl
             refine pure_ (i := 5) (N := some 22) (v := ?_) (a' := ?_) #[true, true, true, false, true, true, false, false, false, false] rfl rfl (any_of HT_.out (by kernel_rfl)) (fun _ _ _ h => h) (Or.inl ⟨by rfl, ?_⟩) ?_ ?_
             rotate_left
             · intro w'
               go_simp
               with_reducible rfl
             rotate_left
             · simp only [Act.put, sx1, sx2, sx3, i64_w, i32_w]
               rfl
             refine pure_ (i := 6) (N := some 23) (v := ?_) (a' := ?_) #[true, true, true, false, true, true, true, false, false, false] rfl rfl (any_of HT_.out (by kernel_rfl)) (fun _ _ _ h => h) (Or.inl ⟨by rfl, ?_⟩) ?_ ?_
             rotate_left
             · intro w'
               go_simp
               with_reducible rfl
             rotate_left
             · simp only [Act.put, sx1, sx2, sx3, i64_w, i32_w]
               rfl
             refine take_ (i := 3) (N := some 20) (v := ?_) (a' := ?_) #[true, true, true, true, true, true, true, false, false, false] rfl rfl (take_ofW HT_.out HW_.out (by kernel_rfl)) (fun _ _ _ h => h) (Or.inl ⟨by rfl, ?_⟩) hHeld ?_ ?_
             rotate_left
             · rintro w' ⟨s0, s1⟩
               go_simp
               with_reducible rfl
             rotate_left
             · simp only [Act.put, sx1, sx2, sx3, i64_w, i32_w]
               rfl
             refine take_ (i := 7) (N := some 24) (v := ?_) (a' := ?_) #[true, true, true, true, true, true, true, true, false, false] rfl rfl (take_ofW HT_.out HW_.out (by kernel_rfl)) (fun _ _ _ h => h) (Or.inl ⟨by rfl, ?_⟩) hHeld ?_ ?_
             rotate_left
             · rintro w' ⟨s0, s1⟩
               go_simp
               with_reducible rfl
             rotate_left
             · simp only [Act.put, sx1, sx2, sx3, i64_w, i32_w]
               rfl
             refine one_ (i := 8) (N := some 25) #[true, true, true, true, true, true, true, true, true, false] rfl rfl (one_of HT_.out (by kernel_rfl)) (by decide) (fun K hK => ?_)
             refine goes_ Try.func71 (by kernel_rfl) rfl #[.agg #[.slice A284_0 ((rd_T62 l0 x5_1).f0).length c284_0], .agg #[.slice A285_0 ((rd_T62 l1 x5_1).f0).length c285_0]] (by rfl) rfl rfl lz ?_
             with_reducible refine (laws_eqBlock.calls k1 _ _ ((rd_T62 l0 x5_1).f0) _ _ ((rd_T62 l1 x5_1).f0) true _ ?side1 ?side2 ?side3 ?side4 A7.out).mono ?_
             (case side1 => exact cz HR284_0.out)
             (case side2 => exact HC284_0.out)
             (case side3 => exact cz HR285_0.out)
             (case side4 => exact HC285_0.out)
             rintro e w10 ⟨rfl, hb⟩
             refine ⟨_, rfl, ?_⟩
             have n0_ := Aside0.mk (below_step bz hb)
             clear HB
             have HB := n0_
             clear n0_
             (try clear hb)
             (try clear hb2)
             (try clear hk)
             (try clear hi)
             refine hK.out _ _ ⟨(ck HB hw284_0), (ck HB hw285_0)⟩ (fun hHeld => ?_)
             clear hK K
             refine norm_ (a' := ?_) ?_ ?_
             rotate_left
             · show Act.put _ (some 25) _ = _
               simp only [Act.put, sx1, sx2, sx3, i64_w, i32_w]
               rfl
             refine pure_ (i := 9) (N := some 26) (v := ?_) (a' := ?_) #[true, true, true, true, true, true, true, true, true, true] rfl rfl (any_of HT_.out (by kernel_rfl)) (fun _ _ _ h => h) (Or.inl ⟨by rfl, ?_⟩) ?_ ?_
             rotate_left
             · intro w'
               go_simp
               with_reducible rfl
             rotate_left
             · simp only [Act.put, sx1, sx2, sx3, i64_w, i32_w]
               rfl
             refine done_ (done_of HT_.out (by kernel_rfl)) ?_
             try go_wp2
             go_roundg k1
             case measure => have := HK1.out; omega
             case rel => exact ⟨(wrap64 (x5_1 + 1)), sz_, H', ⟨by have := HK1.out; omega⟩, ⟨ bz⟩⟩
           · replace c8 := Bool.eq_false_iff.mpr c8
             subst c8
             have H1 : (some false) = some r := by rw [if_neg (show ¬ (false = true) by decide)] at H; exact H
             clear H
             have H := H1
             clear H1
             obtain rfl := Option.some.inj H
             try go_wp2
             have n0_ := Aside0.mk (below_drew1 HB.out)
             clear HB
             have HB := n0_
             clear n0_
             have p284 : 0 ≤ (x5_1 : Int) := of_decide_eq_true az
             have q284 : x5_1 < (l0.length : Int) := of_decide_eq_true az
             obtain ⟨ad284, A284_0, c284_0, e284, hx284_0, hl284_0, hi284_0⟩ := at_T62 HR0.out x5_1 p284 q284
             have hw284_0 := hx284_0
             cases e284
             replace hx284_0 := ck HB hx284_0
             have HR284_0 := Aside0.mk hi284_0
             have HC284_0 := Aside0.mk hl284_0
             clear hi284_0 hl284_0
             replace p284 := eq_true p284
             replace q284 := eq_true q284
             have p285 : 0 ≤ (x5_1 : Int) := of_decide_eq_true az
             have q285 : x5_1 < (l1.length : Int) := of_decide_eq_true az
             obtain ⟨ad285, A285_0, c285_0, e285, hx285_0, hl285_0, hi285_0⟩ := at_T62 HR1.out x5_1 p285 q285
             have hw285_0 := hx285_0
             cases e285
             replace hx285_0 := ck HB hx285_0
             have HR285_0 := Aside0.mk hi285_0
             have HC285_0 := Aside0.mk hl285_0
             clear hi285_0 hl285_0
             replace p285 := eq_true p285
             replace q285 := eq_true q285
             refine start_ (n := 10) (S := fun w' => w'.cell? (ad284.add (x5_1).toNat) = some (.slice A284_0 ((rd_T62 l0 x5_1).f0).length c284_0) ∧ w'.cell? (ad285.add (x5_1).toNat) = some (.slice A285_0 ((rd_T62 l1 x5_1).f0).length c285_0)) (ds := []) #[false, false, false, false, false, false, false, false, false, false] (by kernel_rfl) rfl rfl ⟨(ck HB hw284_0), (ck HB hw285_0)⟩ (fun hHeld => ?_); refine with_tabW laws_eqBlockS.tab6 laws_eqBlockS.bits6 (fun HT_ HW_ => ?_)
             generalize wr.drew = w11 at HB HR284_0 HR285_0 hx284_0 hx285_0 hHeld ⊢
             refine pure_ (i := 0) (N := some 17) (v := ?_) (a' := ?_) #[true, false, false, false, false, false, false, false, false, false] rfl rfl (any_of HT_.out (by kernel_rfl)) (fun _ _ _ h => h) (Or.inl ⟨by rfl, ?_⟩) ?_ ?_
             rotate_left
             · intro w'
               go_simp
               with_reducible rfl
             rotate_left
             · simp only [Act.put, sx1, sx2, sx3, i64_w, i32_w]
               rfl
             refine pure_ (i := 1) (N := some 18) (v := ?_) (a' := ?_) #[true, true, false, false, false, false, false, false, false, false] rfl rfl (any_of HT_.out (by kernel_rfl)) (fun _ _ _ h => h) (Or.inl ⟨by rfl, ?_⟩) ?_ ?_
             rotate_left
             · intro w'
               go_simp
               with_reducible rfl
             rotate_left
             · simp only [Act.put, sx1, sx2, sx3, i64_w, i32_w]
               rfl
             refine pure_ (i := 2) (N := some 19) (v := ?_) (a' := ?_) #[true, true, true, false, false, false, false, false, false, false] rfl rfl (any_of HT_.out (by kernel_rfl)) (fun _ _ _ h => h) (Or.inl ⟨by rfl, ?_⟩) ?_ ?_
             rotate_left
             · intro w'
               go_simp
               with_reducible rfl
             rotate_left
             · simp only [Act.put, sx1, sx2, sx3, i64_w, i32_w]
               rfl
             refine pure_ (i := 4) (N := some 21) (v := ?_) (a' := ?_) #[true, true, true, false, true, false, false, false, false, false] rfl rfl (any_of HT_.out (by kernel_rfl)) (fun _ _ _ h => h) (Or.inl ⟨by rfl, ?_⟩) ?_ ?_
             rotate_left
             · intro w'
               go_simp
               with_reducible rfl
             rotate_left
             · simp only [Act.put, sx1, sx2, sx3, i64_w, i32_w]
               rfl
             refine pure_ (i := 5) (N := some 22) (v := ?_) (a' := ?_) #[true, true, true, false, true, true, false, false, false, false] rfl rfl (any_of HT_.out (by kernel_rfl)) (fun _ _ _ h => h) (Or.inl ⟨by rfl, ?_⟩) ?_ ?_
             rotate_left
             · intro w'
               go_simp
               with_reducible rfl
             rotate_left
             · simp only [Act.put, sx1, sx2, sx3, i64_w, i32_w]
               rfl
             refine pure_ (i := 6) (N := some 23) (v := ?_) (a' := ?_) #[true, true, true, false, true, true, true, false, false, false] rfl rfl (any_of HT_.out (by kernel_rfl)) (fun _ _ _ h => h) (Or.inl ⟨by rfl, ?_⟩) ?_ ?_
             rotate_left
             · intro w'
               go_simp
               with_reducible rfl
             rotate_left
             · simp only [Act.put, sx1, sx2, sx3, i64_w, i32_w]
               rfl
             refine take_ (i := 3) (N := some 20) (v := ?_) (a' := ?_) #[true, true, true, true, true, true, true, false, false, false] rfl rfl (take_ofW HT_.out HW_.out (by kernel_rfl)) (fun _ _ _ h => h) (Or.inl ⟨by rfl, ?_⟩) hHeld ?_ ?_
             rotate_left
             · rintro w' ⟨s0, s1⟩
               go_simp
               with_reducible rfl
             rotate_left
             · simp only [Act.put, sx1, sx2, sx3, i64_w, i32_w]
               rfl
             refine take_ (i := 7) (N := some 24) (v := ?_) (a' := ?_) #[true, true, true, true, true, true, true, true, false, false] rfl rfl (take_ofW HT_.out HW_.out (by kernel_rfl)) (fun _ _ _ h => h) (Or.inl ⟨by rfl, ?_⟩) hHeld ?_ ?_
             rotate_left
             · rintro w' ⟨s0, s1⟩
               go_simp
               with_reducible rfl
             rotate_left
             · simp only [Act.put, sx1, sx2, sx3, i64_w, i32_w]
               rfl
             refine one_ (i := 8) (N := some 25) #[true, true, true, true, true, true, true, true, true, false] rfl rfl (one_of HT_.out (by kernel_rfl)) (by decide) (fun K hK => ?_)
             refine goes_ Try.func71 (by kernel_rfl) rfl #[.agg #[.slice A284_0 ((rd_T62 l0 x5_1).f0).length c284_0], .agg #[.slice A285_0 ((rd_T62 l1 x5_1).f0).length c285_0]] (by rfl) rfl rfl lz ?_
             with_reducible refine (laws_eqBlock.calls k1 _ _ ((rd_T62 l0 x5_1).f0) _ _ ((rd_T62 l1 x5_1).f0) false _ ?side1 ?side2 ?side3 ?side4 A7.out).mono ?_
             (case side1 => exact cz HR284_0.out)
             (case side2 => exact HC284_0.out)
             (case side3 => exact cz HR285_0.out)
             (case side4 => exact HC285_0.out)
             rintro e w12 ⟨rfl, hb⟩
             refine ⟨_, rfl, ?_⟩
             have n0_ := Aside0.mk (below_step bz hb)
             clear HB
             have HB := n0_
             clear n0_
             (try clear hb)
             (try clear hb2)
             (try clear hk)
             (try clear hi)
             refine hK.out _ _ ⟨(ck HB hw284_0), (ck HB hw285_0)⟩ (fun hHeld => ?_)
             clear hK K
             refine norm_ (a' := ?_) ?_ ?_
             rotate_left
             · show Act.put _ (some 25) _ = _
               simp only [Act.put, sx1, sx2, sx3, i64_w, i32_w]
               rfl
             refine pure_ (i := 9) (N := some 26) (v := ?_) (a' := ?_) #[true, true, true, true, true, true, true, true, true, true] rfl rfl (any_of HT_.out (by kernel_rfl)) (fun _ _ _ h => h) (Or.inl ⟨by rfl, ?_⟩) ?_ ?_
             rotate_left
             · intro w'
               go_simp
               with_reducible rfl
             rotate_left
             · simp only [Act.put, sx1, sx2, sx3, i64_w, i32_w]
               rfl
             refine done_ (done_of HT_.out (by kernel_rfl)) ?_
             try go_wp2
             go_ret
             exact ⟨by first | rfl | (simp [errW_none, errW_some] <;> rfl) | (simp [*, errW_none, errW_some] <;> rfl), bz⟩
         · rw [if_neg c6] at H
           exact absurd H (by simp)
       · rw [if_neg c5] at H
         exact absurd H (by simp)
     · rw [if_neg c4] at H
       have c4b0 : decide (x5_1 < (l0.length : Int)) = false := decide_eq_false c4
       clear c4
       obtain rfl := Option.some.inj H
       go_wp2
       go_ret
       exact ⟨by first | rfl | (simp [errW_none, errW_some] <;> rfl) | (simp [*, errW_none, errW_some] <;> rfl), bz⟩
 · rw [if_neg c3] at H
   have c3b0 : ((l0.length : Int) == (l1.length : Int)) = false := beq_eq_false_iff_ne.mpr c3
   have c3b1 : ((l0.length : Int) != (l1.length : Int)) = true := bne_iff_ne.mpr c3
   have c3b2 : (l0.length == l1.length) = false := by first | simpa using c3 | (simp at c3 ⊢; omega)
   obtain rfl := Option.some.inj H
   go_enter Try.func50, Try.ntmps50
   go_wp2
   go_ret
   exact ⟨by first | rfl | (simp [errW_none, errW_some] <;> rfl) | (simp [*, errW_none, errW_some] <;> rfl), bz⟩

set_option linter.unusedVariables false
set_option linter.unusedSimpArgs false

def laws_eqFunc.f (k : Nat) (a0_0 : ByteArray) (a0_1 : Int) (l0_2 : List Int) (a0_3 : Int) (l0_4 : List (S62)) (a1_0 : ByteArray) (a1_1 : Int) (l1_2 : List Int) (a1_3 : Int) (l1_4 : List (S62)) : Option Bool := if a0_0 = a1_0 then (if a0_1 = a1_1 then (((laws_eqInt64S.f k l0_2 l1_2).bind fun t2 => (if t2 = true then (if a0_3 = a1_3 then (((laws_eqBlockS.f k l0_4 l1_4).bind fun t4 => (if t4 = true then (some true) else none))) else none) else none))) else none) else none
set_option maxHeartbeats 4000000 in
set_option maxRecDepth 100000 in
theorem laws_eqFunc.calls (k : Nat) (a0_0 : ByteArray) (a0_1 : Int) (A0_2 : Option Addr) (c0_2 : Nat) (l0_2 : List Int) (a0_3 : Int) (A0_4 : Option Addr) (c0_4 : Nat) (l0_4 : List (S62)) (a1_0 : ByteArray) (a1_1 : Int) (A1_2 : Option Addr) (c1_2 : Nat) (l1_2 : List Int) (a1_3 : Int) (A1_4 : Option Addr) (c1_4 : Nat) (l1_4 : List (S62)) (r : Bool) (w : World) (hr0_2 : Kd.C (Kd.int .i64) w A0_2 l0_2.length l0_2) (hc0_2 : l0_2.length ≤ c0_2) (hr0_4 : Kd.C k62 w A0_4 l0_4.length l0_4) (hc0_4 : l0_4.length ≤ c0_4) (hr1_2 : Kd.C (Kd.int .i64) w A1_2 l1_2.length l1_2) (hc1_2 : l1_2.length ≤ c1_2) (hr1_4 : Kd.C k62 w A1_4 l1_4.length l1_4) (hc1_4 : l1_4.length ≤ c1_4) (h : laws_eqFunc.f k a0_0 a0_1 l0_2 a0_3 l0_4 a1_0 a1_1 l1_2 a1_3 l1_4 = some r) :
 Calls Try.prog 16 #[.agg #[.string a0_0, .int .i64 a0_1, .slice A0_2 l0_2.length c0_2, .int .i64 a0_3, .slice A0_4 l0_4.length c0_4], .agg #[.string a1_0, .int .i64 a1_1, .slice A1_2 l1_2.length c1_2, .int .i64 a1_3, .slice A1_4 l1_4.length c1_4]] w fun e w' => e = .returned (.bool r) ∧ Below w.heap.size w w' := by
 unfold laws_eqFunc.f at h
 by_cases e0 : a0_0 = a1_0
 rotate_left
 · rw [if_neg e0] at h; cases h
 rw [if_pos e0] at h
 subst e0
 by_cases e1 : a0_1 = a1_1
 rotate_left
 · rw [if_neg e1] at h; cases h
 rw [if_pos e1] at h
 subst e1
 obtain ⟨t2, b2, h2⟩ := Option.bind_eq_some_iff.mp h
 clear h
 by_cases e2 : t2 = true
 rotate_left
 · rw [if_neg e2] at h2; cases h2
 rw [if_pos e2] at h2
 subst e2
 have B2 := Aside0.mk b2
 clear b2
 by_cases e3 : a0_3 = a1_3
 rotate_left
 · rw [if_neg e3] at h2; cases h2
 rw [if_pos e3] at h2
 subst e3
 obtain ⟨t4, b4, h4⟩ := Option.bind_eq_some_iff.mp h2
 clear h2
 by_cases e4 : t4 = true
 rotate_left
 · rw [if_neg e4] at h4; cases h4
 rw [if_pos e4] at h4
 subst e4
 have B4 := Aside0.mk b4
 clear b4
 obtain rfl := Option.some.inj h4
 clear h4
 have R0_2 := Aside0.mk hr0_2; have C0_2 := Aside0.mk hc0_2; clear hr0_2 hc0_2
 have R0_4 := Aside0.mk hr0_4; have C0_4 := Aside0.mk hc0_4; clear hr0_4 hc0_4
 have R1_2 := Aside0.mk hr1_2; have C1_2 := Aside0.mk hc1_2; clear hr1_2 hc1_2
 have R1_4 := Aside0.mk hr1_4; have C1_4 := Aside0.mk hc1_4; clear hr1_4 hc1_4
 have hu := Try.underlying30
 go_enter Try.func16, Try.ntmps16
 go_wp2_with (first | (go_at_call 19; refine calls_at (fun W => Below w.heap.size w W ∧ W.heap[w.heap.size]? = some (.cells #[.string a0_0, .int .i64 a0_1, .slice A0_2 l0_2.length c0_2, .int .i64 a0_3, .slice A0_4 l0_4.length c0_4] 30 (0, 0)) ∧ W.heap[w.heap.size + 1]? = some (.cells #[.string a0_0, .int .i64 a0_1, .slice A1_2 l1_2.length c1_2, .int .i64 a0_3, .slice A1_4 l1_4.length c1_4] 30 (0, 0))) ?h_2 ?_; (case h_2 => exact ⟨below_alloc (below_alloc (Below.refl _ _) _) _, alloc2_0 _ _ _, alloc2_1 _ _ _⟩); rintro W2 ⟨b2, p2, q2⟩; refine (laws_eqInt64S.calls k A0_2 c0_2 l0_2 A1_2 c1_2 l1_2 true W2 (Kd.C_below R0_2.out b2) C0_2.out (Kd.C_below R1_2.out b2) C1_2.out B2.out).mono ?_; rintro e w2 ⟨rfl, d2⟩; have d2 := d2.below; have BW2 := Aside0.mk (below_step b2 d2); have P2 := Aside0.mk ((d2.block _ (blk_lt p2)).trans p2); have Q2 := Aside0.mk ((d2.block _ (blk_lt q2)).trans q2); clear b2 p2 q2 d2; have x2_3 : w2.cell? ⟨w.heap.size, 3, none⟩ = some (.int .i64 a0_3) := (blk_cell P2.out 3).trans rfl; have y2_3 : w2.cell? ⟨w.heap.size + 1, 3, none⟩ = some (.int .i64 a0_3) := (blk_cell Q2.out 3).trans rfl; have x2_4 : w2.cell? ⟨w.heap.size, 4, none⟩ = some (.slice A0_4 l0_4.length c0_4) := (blk_cell P2.out 4).trans rfl; have y2_4 : w2.cell? ⟨w.heap.size + 1, 4, none⟩ = some (.slice A1_4 l1_4.length c1_4) := (blk_cell Q2.out 4).trans rfl) | (go_at_call 50; refine calls_at (fun W => Below w.heap.size w W ∧ W.heap[w.heap.size]? = some (.cells #[.string a0_0, .int .i64 a0_1, .slice A0_2 l0_2.length c0_2, .int .i64 a0_3, .slice A0_4 l0_4.length c0_4] 30 (0, 0)) ∧ W.heap[w.heap.size + 1]? = some (.cells #[.string a0_0, .int .i64 a0_1, .slice A1_2 l1_2.length c1_2, .int .i64 a0_3, .slice A1_4 l1_4.length c1_4] 30 (0, 0))) ?h_4 ?_; (case h_4 => exact ⟨BW2.out, P2.out, Q2.out⟩); rintro W4 ⟨b4, p4, q4⟩; refine (laws_eqBlockS.calls k A0_4 c0_4 l0_4 A1_4 c1_4 l1_4 true W4 (Kd.C_below R0_4.out b4) C0_4.out (Kd.C_below R1_4.out b4) C1_4.out B4.out).mono ?_; rintro e w4 ⟨rfl, d4⟩; have BW4 := Aside0.mk (below_step b4 d4); have P4 := Aside0.mk ((d4.block _ (blk_lt p4)).trans p4); have Q4 := Aside0.mk ((d4.block _ (blk_lt q4)).trans q4); clear b4 p4 q4 d4))
 go_ret
 exact ⟨rfl, BW4.out⟩

end Go.Proofs.Ytoedcnhgobbnfaa.All

/- The walks of the laws' mark functions, as what they leave. Printed by gen_mark.py. -/
namespace Go.Proofs.Ytoedcnhgobbnfaa.All
open Go.RowKit Go.Proofs.YtoedcnhgobbnfaaW.PrintWords Go.Proofs.YtoedcnhgobbnfaaW.PrintLast Go.Proofs.YtoedcnhgobbnfaaW.PrintMore
set_option linter.unusedVariables false
set_option linter.unusedSimpArgs false
def cntL_int64 (xs : List Int) : Nat := xs.length
theorem cntL_int64_same {xs ys : List Int} (h : sameL (Shp.int .i64).same xs ys) : cntL_int64 ys = cntL_int64 xs := h.1
theorem cntL_int64_take (xs : List Int) (m : Nat) (h : m < xs.length) : cntL_int64 (xs.take (m + 1)) = cntL_int64 (xs.take m) + 1 := by unfold cntL_int64; rw [List.length_take, List.length_take]; omega
theorem cntL_int64_le (xs : List Int) (m : Nat) : cntL_int64 (xs.take m) ≤ cntL_int64 xs := by unfold cntL_int64; rw [List.length_take]; omega
theorem cntL_int64_len (xs : List Int) : xs.length ≤ cntL_int64 xs := Nat.le_refl _
def cntL_uint64 (xs : List Int) : Nat := xs.length
theorem cntL_uint64_same {xs ys : List Int} (h : sameL (Shp.int .u64).same xs ys) : cntL_uint64 ys = cntL_uint64 xs := h.1
theorem cntL_uint64_take (xs : List Int) (m : Nat) (h : m < xs.length) : cntL_uint64 (xs.take (m + 1)) = cntL_uint64 (xs.take m) + 1 := by unfold cntL_uint64; rw [List.length_take, List.length_take]; omega
theorem cntL_uint64_le (xs : List Int) (m : Nat) : cntL_uint64 (xs.take m) ≤ cntL_uint64 xs := by unfold cntL_uint64; rw [List.length_take]; omega
theorem cntL_uint64_len (xs : List Int) : xs.length ≤ cntL_uint64 xs := Nat.le_refl _
def cnt_Operand (x : S75) : Nat := 4
def cntL_Operand (xs : List S75) : Nat := (xs.map cnt_Operand).sum
def shp_Operand : Shp k75 := Shp.iso (Shp.pair (Shp.int .i64) (Shp.pair (Shp.int .i64) (Shp.pair (Shp.int .i64) (Shp.int .u64)))) (fun x : S75 => (x.f0, x.f1, x.f2, x.f3)) (fun y => ⟨y.1, y.2.1, y.2.2.1, y.2.2.2⟩) (fun _ => rfl)
theorem cnt_Operand_same {x y : S75} (h : shp_Operand.same x y) : cnt_Operand y = cnt_Operand x := rfl
theorem cntL_Operand_same {xs ys : List S75} (h : sameL shp_Operand.same xs ys) : cntL_Operand ys = cntL_Operand xs := sameL_sum h (fun _ _ h => cnt_Operand_same h)
theorem cntL_Operand_take (xs : List S75) (m : Nat) (h : m < xs.length) : cntL_Operand (xs.take (m + 1)) = cntL_Operand (xs.take m) + cnt_Operand (xs.getD m z75) := sum_take_succ _ _ xs m h
theorem cntL_Operand_len (xs : List S75) : xs.length ≤ cntL_Operand xs := len_le_sum xs (fun x => by unfold cnt_Operand; omega)
theorem cntL_Operand_le (xs : List S75) (m : Nat) : cntL_Operand (xs.take m) ≤ cntL_Operand xs := sum_take_le _ xs m
def cnt_Instr (x : S66) : Nat := 6 + cntL_Operand x.f6 + cntL_int64 x.f7 + cntL_uint64 x.f8
def cntL_Instr (xs : List S66) : Nat := (xs.map cnt_Instr).sum
def shp_Instr : Shp k66 := Shp.iso (Shp.pair (Shp.int .i64) (Shp.pair (Shp.int .i64) (Shp.pair (Shp.int .i64) (Shp.pair (Shp.int .i64) (Shp.pair (Shp.int .i64) (Shp.pair (Shp.int .i64) (Shp.pair (Shp.slice 75 shp_Operand) (Shp.pair (Shp.slice 2 (Shp.int .i64)) (Shp.slice 73 (Shp.int .u64)))))))))) (fun x : S66 => (x.f0, x.f1, x.f2, x.f3, x.f4, x.f5, x.f6, x.f7, x.f8)) (fun y => ⟨y.1, y.2.1, y.2.2.1, y.2.2.2.1, y.2.2.2.2.1, y.2.2.2.2.2.1, y.2.2.2.2.2.2.1, y.2.2.2.2.2.2.2.1, y.2.2.2.2.2.2.2.2⟩) (fun _ => rfl)
theorem cnt_Instr_same {x y : S66} (h : shp_Instr.same x y) : cnt_Instr y = cnt_Instr x := by
  have e6 : cntL_Operand y.f6 = cntL_Operand x.f6 := cntL_Operand_same h.2.2.2.2.2.2.1
  have e7 : cntL_int64 y.f7 = cntL_int64 x.f7 := cntL_int64_same h.2.2.2.2.2.2.2.1
  have e8 : cntL_uint64 y.f8 = cntL_uint64 x.f8 := cntL_uint64_same h.2.2.2.2.2.2.2.2
  unfold cnt_Instr
  rw [e6, e7, e8]
theorem cntL_Instr_same {xs ys : List S66} (h : sameL shp_Instr.same xs ys) : cntL_Instr ys = cntL_Instr xs := sameL_sum h (fun _ _ h => cnt_Instr_same h)
theorem cntL_Instr_take (xs : List S66) (m : Nat) (h : m < xs.length) : cntL_Instr (xs.take (m + 1)) = cntL_Instr (xs.take m) + cnt_Instr (xs.getD m z66) := sum_take_succ _ _ xs m h
theorem cntL_Instr_len (xs : List S66) : xs.length ≤ cntL_Instr xs := len_le_sum xs (fun x => by unfold cnt_Instr; omega)
theorem cntL_Instr_le (xs : List S66) (m : Nat) : cntL_Instr (xs.take m) ≤ cntL_Instr xs := sum_take_le _ xs m
def cnt_Block (x : S62) : Nat := cntL_Instr x.f0
def cntL_Block (xs : List S62) : Nat := (xs.map cnt_Block).sum
def shp_Block : Shp k62 := Shp.iso (Shp.slice 66 shp_Instr) (fun x : S62 => x.f0) (fun y => ⟨y⟩) (fun _ => rfl)
theorem cnt_Block_same {x y : S62} (h : shp_Block.same x y) : cnt_Block y = cnt_Block x := by
  have e0 : cntL_Instr y.f0 = cntL_Instr x.f0 := cntL_Instr_same h
  unfold cnt_Block
  rw [e0]
theorem cntL_Block_same {xs ys : List S62} (h : sameL shp_Block.same xs ys) : cntL_Block ys = cntL_Block xs := sameL_sum h (fun _ _ h => cnt_Block_same h)
theorem cntL_Block_take (xs : List S62) (m : Nat) (h : m < xs.length) : cntL_Block (xs.take (m + 1)) = cntL_Block (xs.take m) + cnt_Block (xs.getD m z62) := sum_take_succ _ _ xs m h
theorem cntL_Block_le (xs : List S62) (m : Nat) : cntL_Block (xs.take m) ≤ cntL_Block xs := sum_take_le _ xs m
theorem laws_markInt64S.elem {w : World} {base g n cap : Nat} {ok : Nat → Prop} {xs : List Int} (hR : (Kd.int .i64).R 2 w base ok (.slice (some ⟨g, 0, none⟩) n cap) xs) (m : Nat) (h1 : m < n) : ∃ y0, w.cell? ⟨g, m, none⟩ = some (.int .i64 y0) := by
  obtain ⟨e, _⟩ := Kd.R_celln 0 hR (m : Int) (by omega) (by omega)
  exact ⟨_, by simpa using e⟩
set_option maxHeartbeats 4000000 in
set_option maxRecDepth 100000 in
theorem laws_markInt64S.sim (v : Value) (xs : List Int) (a1 : Int) (w : World) (base : Nat) (ok : Nat → Prop) (h0 : 0 ≤ a1) (hb : a1 + cntL_int64 xs ≤ 1000000000000) (hR : (Kd.int .i64).R 2 w base ok v xs) :
    Calls Try.prog 21 #[v, .int .i64 a1] w fun e w' => e = .returned (.int .i64 (a1 + cntL_int64 xs)) ∧ Sim w w' (fun k => ok k ∧ base ≤ k) := by
  have HR := Aside0.mk (Kd.R_based hR)
  clear hR
  obtain ⟨A, c, rfl⟩ := Kd.R_slice HR.out
  have hl0 : xs.length ≤ 1000000000000 := by have := cntL_int64_len xs; omega
  have HB := Aside0.mk hb
  clear hb
  go_enter Try.func21, Try.ntmps21
  go_wp2
  go_loopw [1, 5] (fun v1 v5 w' => ∃ m : Nat, m ≤ xs.length ∧ v1 = .int .i64 (a1 + cntL_int64 (xs.take m)) ∧ v5 = .int .i64 (m : Int) ∧ Aside0 (Sim w w' (fun k => ok k ∧ base ≤ k))) (fun _ v5 _ => xs.length - (intOf v5).toNat)
  case atStart => exact ⟨0, Nat.zero_le _, by simp [cntL_int64], rfl, ⟨Sim.refl _ _⟩⟩
  case round =>
    obtain ⟨m, hm, rfl, rfl, HS⟩ := hrel
    have hle := cntL_int64_le xs m
    by_cases hlt : m < xs.length
    · have htk := cntL_int64_take xs m hlt
      have hle1 := cntL_int64_le xs (m + 1)
      obtain ⟨g, cap, eg, _, _, gc⟩ := Kd.R_form HR.out (by omega)
      injection eg with ea _ ec
      subst ea
      subst ec
      have GS : ok g ∧ base ≤ g := HR.out.1 g rfl
      have HG := Aside0.mk GS
      clear GS
      have GC := Aside0.mk gc
      clear gc
      obtain ⟨y0, c0⟩ := laws_markInt64S.elem HR.out m hlt
      obtain ⟨X, hX⟩ : ∃ X : Int, X = a1 + cntL_int64 (xs.take m) := ⟨_, rfl⟩
      rw [← hX]
      have hbb := HB.out
      have hX0 : 0 ≤ X := by omega
      have hX1 : X + 1 ≤ 1000000000000 := by omega
      have C0 := Aside0.mk c0
      clear c0
      have hfin : a1 + cntL_int64 (xs.take (m + 1)) = X + 1 := by omega
      have FIN := Aside0.mk hfin
      have HX := Aside0.mk hX
      clear hfin hX htk hle hle1 hbb
      obtain ⟨d0, e0⟩ := HS.out.scal_int GC.out C0.out
      have z0 := HS.out.frozen (j := m) GC.out
      go_wp2
      go_roundw
      case measure => simp [intOf]; omega
      case rel => exact ⟨m + 1, by omega, by (first | (rw [FIN.out]; done) | (rw [FIN.out]; go_num)), by go_num, ⟨by repeat (first | exact HS.out | (with_reducible refine Sim.putw ?_ GC.out (by first | exact C0.out) HG.out))⟩⟩
    · have : m = xs.length := by omega
      subst this
      rw [List.take_length]
      go_wp2
      go_ret
      exact ⟨rfl, HS.out⟩
theorem laws_markUint64S.elem {w : World} {base g n cap : Nat} {ok : Nat → Prop} {xs : List Int} (hR : (Kd.int .u64).R 73 w base ok (.slice (some ⟨g, 0, none⟩) n cap) xs) (m : Nat) (h1 : m < n) : ∃ y0, w.cell? ⟨g, m, none⟩ = some (.int .u64 y0) := by
  obtain ⟨e, _⟩ := Kd.R_celln 0 hR (m : Int) (by omega) (by omega)
  exact ⟨_, by simpa using e⟩
set_option maxHeartbeats 4000000 in
set_option maxRecDepth 100000 in
theorem laws_markUint64S.sim (v : Value) (xs : List Int) (a1 : Int) (w : World) (base : Nat) (ok : Nat → Prop) (h0 : 0 ≤ a1) (hb : a1 + cntL_uint64 xs ≤ 1000000000000) (hR : (Kd.int .u64).R 73 w base ok v xs) :
    Calls Try.prog 85 #[v, .int .i64 a1] w fun e w' => e = .returned (.int .i64 (a1 + cntL_uint64 xs)) ∧ Sim w w' (fun k => ok k ∧ base ≤ k) := by
  have HR := Aside0.mk (Kd.R_based hR)
  clear hR
  obtain ⟨A, c, rfl⟩ := Kd.R_slice HR.out
  have hl0 : xs.length ≤ 1000000000000 := by have := cntL_uint64_len xs; omega
  have HB := Aside0.mk hb
  clear hb
  go_enter Try.func85, Try.ntmps85
  go_wp2
  go_loopw [1, 5] (fun v1 v5 w' => ∃ m : Nat, m ≤ xs.length ∧ v1 = .int .i64 (a1 + cntL_uint64 (xs.take m)) ∧ v5 = .int .i64 (m : Int) ∧ Aside0 (Sim w w' (fun k => ok k ∧ base ≤ k))) (fun _ v5 _ => xs.length - (intOf v5).toNat)
  case atStart => exact ⟨0, Nat.zero_le _, by simp [cntL_uint64], rfl, ⟨Sim.refl _ _⟩⟩
  case round =>
    obtain ⟨m, hm, rfl, rfl, HS⟩ := hrel
    have hle := cntL_uint64_le xs m
    by_cases hlt : m < xs.length
    · have htk := cntL_uint64_take xs m hlt
      have hle1 := cntL_uint64_le xs (m + 1)
      obtain ⟨g, cap, eg, _, _, gc⟩ := Kd.R_form HR.out (by omega)
      injection eg with ea _ ec
      subst ea
      subst ec
      have GS : ok g ∧ base ≤ g := HR.out.1 g rfl
      have HG := Aside0.mk GS
      clear GS
      have GC := Aside0.mk gc
      clear gc
      obtain ⟨y0, c0⟩ := laws_markUint64S.elem HR.out m hlt
      obtain ⟨X, hX⟩ : ∃ X : Int, X = a1 + cntL_uint64 (xs.take m) := ⟨_, rfl⟩
      rw [← hX]
      have hbb := HB.out
      have hX0 : 0 ≤ X := by omega
      have hX1 : X + 1 ≤ 1000000000000 := by omega
      have C0 := Aside0.mk c0
      clear c0
      have hfin : a1 + cntL_uint64 (xs.take (m + 1)) = X + 1 := by omega
      have FIN := Aside0.mk hfin
      have HX := Aside0.mk hX
      clear hfin hX htk hle hle1 hbb
      obtain ⟨d0, e0⟩ := HS.out.scal_int GC.out C0.out
      have z0 := HS.out.frozen (j := m) GC.out
      go_wp2
      go_roundw
      case measure => simp [intOf]; omega
      case rel => exact ⟨m + 1, by omega, by (first | (rw [FIN.out]; done) | (rw [FIN.out]; go_num)), by go_num, ⟨by repeat (first | exact HS.out | (with_reducible refine Sim.putw ?_ GC.out (by first | exact C0.out) HG.out))⟩⟩
    · have : m = xs.length := by omega
      subst this
      rw [List.take_length]
      go_wp2
      go_ret
      exact ⟨rfl, HS.out⟩
theorem laws_markOperandS.elem {w : World} {base g n cap : Nat} {ok : Nat → Prop} {xs : List S75} (hR : k75.R 75 w base ok (.slice (some ⟨g, 0, none⟩) n cap) xs) (m : Nat) (h1 : m < n) : ∃ (x : S75), x = xs.getD m z75 ∧ w.cell? ⟨g, m * 4, none⟩ = some (.int .i64 x.f0) ∧ w.cell? ⟨g, m * 4 + 1, none⟩ = some (.int .i64 x.f1) ∧ w.cell? ⟨g, m * 4 + 2, none⟩ = some (.int .i64 x.f2) ∧ w.cell? ⟨g, m * 4 + 3, none⟩ = some (.int .u64 x.f3) := by
  obtain ⟨c, hl, hM, hc, _⟩ := Kd.R_elem hR z75 (m : Int) (by omega) (by omega)
  simp only [Int.toNat_natCast] at hM hc
  obtain rfl := k75_openM hM
  exact ⟨_, rfl, hc 0 _ rfl, hc 1 _ rfl, hc 2 _ rfl, hc 3 _ rfl⟩
set_option maxHeartbeats 4000000 in
set_option maxRecDepth 100000 in
theorem laws_markOperandS.sim (v : Value) (xs : List S75) (a1 : Int) (w : World) (base : Nat) (ok : Nat → Prop) (h0 : 0 ≤ a1) (hb : a1 + cntL_Operand xs ≤ 1000000000000) (hR : k75.R 75 w base ok v xs) :
    Calls Try.prog 84 #[v, .int .i64 a1] w fun e w' => e = .returned (.int .i64 (a1 + cntL_Operand xs)) ∧ Sim w w' (fun k => ok k ∧ base ≤ k) := by
  have HR := Aside0.mk (Kd.R_based hR)
  clear hR
  obtain ⟨A, c, rfl⟩ := Kd.R_slice HR.out
  have hl0 : xs.length ≤ 1000000000000 := by have := cntL_Operand_len xs; omega
  have HB := Aside0.mk hb
  clear hb
  go_enter Try.func84, Try.ntmps84
  go_wp2
  go_loopw [1, 5] (fun v1 v5 w' => ∃ m : Nat, m ≤ xs.length ∧ v1 = .int .i64 (a1 + cntL_Operand (xs.take m)) ∧ v5 = .int .i64 (m : Int) ∧ Aside0 (Sim w w' (fun k => ok k ∧ base ≤ k))) (fun _ v5 _ => xs.length - (intOf v5).toNat)
  case atStart => exact ⟨0, Nat.zero_le _, by simp [cntL_Operand], rfl, ⟨Sim.refl _ _⟩⟩
  case round =>
    obtain ⟨m, hm, rfl, rfl, HS⟩ := hrel
    have hle := cntL_Operand_le xs m
    by_cases hlt : m < xs.length
    · have htk := cntL_Operand_take xs m hlt
      have hle1 := cntL_Operand_le xs (m + 1)
      obtain ⟨g, cap, eg, _, _, gc⟩ := Kd.R_form HR.out (by omega)
      injection eg with ea _ ec
      subst ea
      subst ec
      have GS : ok g ∧ base ≤ g := HR.out.1 g rfl
      have HG := Aside0.mk GS
      clear GS
      have GC := Aside0.mk gc
      clear gc
      obtain ⟨x, hx, c0, c1, c2, c3⟩ := laws_markOperandS.elem HR.out m hlt
      rw [← hx] at htk
      have hcx : cnt_Operand x = 4 := rfl
      obtain ⟨X, hX⟩ : ∃ X : Int, X = a1 + cntL_Operand (xs.take m) := ⟨_, rfl⟩
      rw [← hX]
      have hbb := HB.out
      have hX0 : 0 ≤ X := by omega
      have hX1 : X + 4 ≤ 1000000000000 := by omega
      have C0 := Aside0.mk c0
      clear c0
      have C1 := Aside0.mk c1
      clear c1
      have C2 := Aside0.mk c2
      clear c2
      have C3 := Aside0.mk c3
      clear c3
      have hfin : a1 + cntL_Operand (xs.take (m + 1)) = X + 4 := by omega
      have FIN := Aside0.mk hfin
      have HX := Aside0.mk hX
      have HXX := Aside0.mk hx
      clear hx hcx
      clear hfin hX htk hle hle1 hbb
      obtain ⟨d0, e0⟩ := HS.out.scal_int GC.out C0.out
      have z0 := HS.out.frozen (j := m * 4) GC.out
      obtain ⟨d1, e1⟩ := HS.out.scal_int GC.out C1.out
      have z1 := HS.out.frozen (j := m * 4 + 1) GC.out
      obtain ⟨d2, e2⟩ := HS.out.scal_int GC.out C2.out
      have z2 := HS.out.frozen (j := m * 4 + 2) GC.out
      obtain ⟨d3, e3⟩ := HS.out.scal_int GC.out C3.out
      have z3 := HS.out.frozen (j := m * 4 + 3) GC.out
      go_wp2
      go_roundw
      case measure => simp [intOf]; omega
      case rel => exact ⟨m + 1, by omega, by (first | (rw [FIN.out]; done) | (rw [FIN.out]; go_num)), by go_num, ⟨by repeat (first | exact HS.out | (with_reducible refine Sim.putw ?_ GC.out (by first | exact C0.out | exact C1.out | exact C2.out | exact C3.out) HG.out))⟩⟩
    · have : m = xs.length := by omega
      subst this
      rw [List.take_length]
      go_wp2
      go_ret
      exact ⟨rfl, HS.out⟩
theorem laws_markInstrS.elem {w : World} {base g n cap : Nat} {ok : Nat → Prop} {xs : List S66} (hR : k66.R 66 w base ok (.slice (some ⟨g, 0, none⟩) n cap) xs) (m : Nat) (h1 : m < n) : ∃ (x : S66) (v6 : Value) (v7 : Value) (v8 : Value), x = xs.getD m z66 ∧ w.cell? ⟨g, m * 9, none⟩ = some (.int .i64 x.f0) ∧ w.cell? ⟨g, m * 9 + 1, none⟩ = some (.int .i64 x.f1) ∧ w.cell? ⟨g, m * 9 + 2, none⟩ = some (.int .i64 x.f2) ∧ w.cell? ⟨g, m * 9 + 3, none⟩ = some (.int .i64 x.f3) ∧ w.cell? ⟨g, m * 9 + 4, none⟩ = some (.int .i64 x.f4) ∧ w.cell? ⟨g, m * 9 + 5, none⟩ = some (.int .i64 x.f5) ∧ w.cell? ⟨g, m * 9 + 6, none⟩ = some v6 ∧ w.cell? ⟨g, m * 9 + 7, none⟩ = some v7 ∧ w.cell? ⟨g, m * 9 + 8, none⟩ = some v8 ∧ k75.R 75 w base ok v6 x.f6 ∧ (Kd.int .i64).R 2 w base ok v7 x.f7 ∧ (Kd.int .u64).R 73 w base ok v8 x.f8 := by
  obtain ⟨c, hl, hM, hc, _⟩ := Kd.R_elem hR z66 (m : Int) (by omega) (by omega)
  simp only [Int.toNat_natCast] at hM hc
  obtain ⟨v6, v7, v8, rfl, r6, r7, r8⟩ := k66_openM hM
  exact ⟨_, v6, v7, v8, rfl, hc 0 _ rfl, hc 1 _ rfl, hc 2 _ rfl, hc 3 _ rfl, hc 4 _ rfl, hc 5 _ rfl, hc 6 _ rfl, hc 7 _ rfl, hc 8 _ rfl, Kd.R_mono r6 (fun _ hk => hk.1), Kd.R_mono r7 (fun _ hk => hk.1), Kd.R_mono r8 (fun _ hk => hk.1)⟩
set_option maxHeartbeats 4000000 in
set_option maxRecDepth 100000 in
theorem laws_markInstrS.sim (v : Value) (xs : List S66) (a1 : Int) (w : World) (base : Nat) (ok : Nat → Prop) (h0 : 0 ≤ a1) (hb : a1 + cntL_Instr xs ≤ 1000000000000) (hR : k66.R 66 w base ok v xs) :
    Calls Try.prog 72 #[v, .int .i64 a1] w fun e w' => e = .returned (.int .i64 (a1 + cntL_Instr xs)) ∧ Sim w w' (fun k => ok k ∧ base ≤ k) := by
  have HR := Aside0.mk (Kd.R_based hR)
  clear hR
  obtain ⟨A, c, rfl⟩ := Kd.R_slice HR.out
  have hl0 : xs.length ≤ 1000000000000 := by have := cntL_Instr_len xs; omega
  have HB := Aside0.mk hb
  clear hb
  go_enter Try.func72, Try.ntmps72
  go_wp2
  go_loopw [1, 5] (fun v1 v5 w' => ∃ m : Nat, m ≤ xs.length ∧ v1 = .int .i64 (a1 + cntL_Instr (xs.take m)) ∧ v5 = .int .i64 (m : Int) ∧ Aside0 (Sim w w' (fun k => ok k ∧ base ≤ k))) (fun _ v5 _ => xs.length - (intOf v5).toNat)
  case atStart => exact ⟨0, Nat.zero_le _, by simp [cntL_Instr], rfl, ⟨Sim.refl _ _⟩⟩
  case round =>
    obtain ⟨m, hm, rfl, rfl, HS⟩ := hrel
    have hle := cntL_Instr_le xs m
    by_cases hlt : m < xs.length
    · have htk := cntL_Instr_take xs m hlt
      have hle1 := cntL_Instr_le xs (m + 1)
      obtain ⟨g, cap, eg, _, _, gc⟩ := Kd.R_form HR.out (by omega)
      injection eg with ea _ ec
      subst ea
      subst ec
      have GS : ok g ∧ base ≤ g := HR.out.1 g rfl
      have HG := Aside0.mk GS
      clear GS
      have GC := Aside0.mk gc
      clear gc
      obtain ⟨x, v6, v7, v8, hx, c0, c1, c2, c3, c4, c5, c6, c7, c8, r6, r7, r8⟩ := laws_markInstrS.elem HR.out m hlt
      rw [← hx] at htk
      have hcx : cnt_Instr x = 6 + cntL_Operand x.f6 + cntL_int64 x.f7 + cntL_uint64 x.f8 := rfl
      obtain ⟨X, hX⟩ : ∃ X : Int, X = a1 + cntL_Instr (xs.take m) := ⟨_, rfl⟩
      rw [← hX]
      have hbb := HB.out
      have hX0 : 0 ≤ X := by omega
      have hX1 : X + 6 + (cntL_Operand x.f6 : Nat) + (cntL_int64 x.f7 : Nat) + (cntL_uint64 x.f8 : Nat) ≤ 1000000000000 := by omega
      obtain ⟨q6, hq6⟩ : ∃ q : Nat, q = cntL_Operand x.f6 := ⟨_, rfl⟩
      rw [← hq6] at hX1 hcx
      obtain ⟨q7, hq7⟩ : ∃ q : Nat, q = cntL_int64 x.f7 := ⟨_, rfl⟩
      rw [← hq7] at hX1 hcx
      obtain ⟨q8, hq8⟩ : ∃ q : Nat, q = cntL_uint64 x.f8 := ⟨_, rfl⟩
      rw [← hq8] at hX1 hcx
      have R6 := Aside0.mk r6
      clear r6
      have R7 := Aside0.mk r7
      clear r7
      have R8 := Aside0.mk r8
      clear r8
      have C0 := Aside0.mk c0
      clear c0
      have C1 := Aside0.mk c1
      clear c1
      have C2 := Aside0.mk c2
      clear c2
      have C3 := Aside0.mk c3
      clear c3
      have C4 := Aside0.mk c4
      clear c4
      have C5 := Aside0.mk c5
      clear c5
      have C6 := Aside0.mk c6
      clear c6
      have C7 := Aside0.mk c7
      clear c7
      have C8 := Aside0.mk c8
      clear c8
      have hfin : a1 + cntL_Instr (xs.take (m + 1)) = X + 6 + (q6 : Nat) + (q7 : Nat) + (q8 : Nat) := by omega
      have FIN := Aside0.mk hfin
      have HX := Aside0.mk hX
      have HXX := Aside0.mk hx
      clear hx hcx
      have HQ6 := Aside0.mk hq6
      clear hq6
      have HQ7 := Aside0.mk hq7
      clear hq7
      have HQ8 := Aside0.mk hq8
      clear hq8
      clear hfin hX htk hle hle1 hbb
      obtain ⟨d0, e0⟩ := HS.out.scal_int GC.out C0.out
      have z0 := HS.out.frozen (j := m * 9) GC.out
      obtain ⟨d1, e1⟩ := HS.out.scal_int GC.out C1.out
      have z1 := HS.out.frozen (j := m * 9 + 1) GC.out
      obtain ⟨d2, e2⟩ := HS.out.scal_int GC.out C2.out
      have z2 := HS.out.frozen (j := m * 9 + 2) GC.out
      obtain ⟨d3, e3⟩ := HS.out.scal_int GC.out C3.out
      have z3 := HS.out.frozen (j := m * 9 + 3) GC.out
      obtain ⟨d4, e4⟩ := HS.out.scal_int GC.out C4.out
      have z4 := HS.out.frozen (j := m * 9 + 4) GC.out
      obtain ⟨d5, e5⟩ := HS.out.scal_int GC.out C5.out
      have z5 := HS.out.frozen (j := m * 9 + 5) GC.out
      obtain ⟨A6, n6, k6, s6⟩ := Kd.R_slice' R6.out
      have e6 := HS.out.slc GC.out (C6.out.trans (congrArg some s6))
      have S6 := Aside0.mk s6
      clear s6
      go_wp2_with (first | (go_at_call 84; refine calls_at (fun W => Sim w W (fun k => ok k ∧ base ≤ k)) ?hs_6 ?_; (case hs_6 => repeat (first | exact HS.out | (with_reducible refine Sim.putw ?_ GC.out (by first | exact C0.out | exact C0.out | exact C1.out | exact C2.out | exact C3.out | exact C4.out | exact C5.out | exact C6.out | exact C7.out | exact C8.out) HG.out))); intro W6 hs6; obtain ⟨l6, P6, L6⟩ := Shp.R shp_Operand hs6 R6.out; rw [S6.out] at P6; have hl6 := cntL_Operand_same L6; have hq6 := HQ6.out; refine (laws_markOperandS.sim _ l6 _ W6 base _ ?pa_6 ?pb_6 P6).mono ?_; (case pa_6 => omega); (case pb_6 => omega); rintro e w6 ⟨rfl, h6⟩; have HS6 := Aside0.mk (hs6.trans (h6.mono (fun _ hk => ⟨hk.1.1, hk.2⟩))); rw [hl6, ← hq6]; clear hs6 h6 hl6 hq6 P6 L6; obtain ⟨A7, n7, k7, s7⟩ := Kd.R_slice' R7.out; have e7 := HS6.out.slc GC.out (C7.out.trans (congrArg some s7)); have S7 := Aside0.mk s7; clear s7) | (go_at_call 21; refine calls_at (fun W => Sim w W (fun k => ok k ∧ base ≤ k)) ?hs_7 ?_; (case hs_7 => repeat (first | exact HS6.out | (with_reducible refine Sim.putw ?_ GC.out (by first | exact C0.out | exact C0.out | exact C1.out | exact C2.out | exact C3.out | exact C4.out | exact C5.out | exact C6.out | exact C7.out | exact C8.out) HG.out))); intro W7 hs7; obtain ⟨l7, P7, L7⟩ := Shp.R (Shp.int .i64) hs7 R7.out; rw [S7.out] at P7; have hl7 := cntL_int64_same L7; have hq7 := HQ7.out; refine (laws_markInt64S.sim _ l7 _ W7 base _ ?pa_7 ?pb_7 P7).mono ?_; (case pa_7 => omega); (case pb_7 => omega); rintro e w7 ⟨rfl, h7⟩; have HS7 := Aside0.mk (hs7.trans (h7.mono (fun _ hk => ⟨hk.1.1, hk.2⟩))); rw [hl7, ← hq7]; clear hs7 h7 hl7 hq7 P7 L7; obtain ⟨A8, n8, k8, s8⟩ := Kd.R_slice' R8.out; have e8 := HS7.out.slc GC.out (C8.out.trans (congrArg some s8)); have S8 := Aside0.mk s8; clear s8) | (go_at_call 85; refine calls_at (fun W => Sim w W (fun k => ok k ∧ base ≤ k)) ?hs_8 ?_; (case hs_8 => repeat (first | exact HS7.out | (with_reducible refine Sim.putw ?_ GC.out (by first | exact C0.out | exact C0.out | exact C1.out | exact C2.out | exact C3.out | exact C4.out | exact C5.out | exact C6.out | exact C7.out | exact C8.out) HG.out))); intro W8 hs8; obtain ⟨l8, P8, L8⟩ := Shp.R (Shp.int .u64) hs8 R8.out; rw [S8.out] at P8; have hl8 := cntL_uint64_same L8; have hq8 := HQ8.out; refine (laws_markUint64S.sim _ l8 _ W8 base _ ?pa_8 ?pb_8 P8).mono ?_; (case pa_8 => omega); (case pb_8 => omega); rintro e w8 ⟨rfl, h8⟩; have HS8 := Aside0.mk (hs8.trans (h8.mono (fun _ hk => ⟨hk.1.1, hk.2⟩))); rw [hl8, ← hq8]; clear hs8 h8 hl8 hq8 P8 L8))
      go_roundw
      case measure => simp [intOf]; omega
      case rel => exact ⟨m + 1, by omega, by (first | (rw [FIN.out]; done) | (rw [FIN.out]; go_num)), by go_num, ⟨HS8.out⟩⟩
    · have : m = xs.length := by omega
      subst this
      rw [List.take_length]
      go_wp2
      go_ret
      exact ⟨rfl, HS.out⟩
theorem laws_markBlockS.elem {w : World} {base g n cap : Nat} {ok : Nat → Prop} {xs : List S62} (hR : k62.R 62 w base ok (.slice (some ⟨g, 0, none⟩) n cap) xs) (m : Nat) (h1 : m < n) : ∃ (x : S62) (v0 : Value), x = xs.getD m z62 ∧ w.cell? ⟨g, m, none⟩ = some v0 ∧ k66.R 66 w base ok v0 x.f0 := by
  obtain ⟨c, hl, hM, hc, _⟩ := Kd.R_elem hR z62 (m : Int) (by omega) (by omega)
  simp only [Int.toNat_natCast] at hM hc
  obtain ⟨v0, rfl, r0⟩ := k62_openM hM
  exact ⟨_, v0, rfl, by simpa [show k62.sz = 1 from rfl] using hc 0 _ rfl, Kd.R_mono r0 (fun _ hk => hk.1)⟩
set_option maxHeartbeats 4000000 in
set_option maxRecDepth 100000 in
theorem laws_markBlockS.sim (v : Value) (xs : List S62) (a1 : Int) (w : World) (base : Nat) (ok : Nat → Prop) (h0 : 0 ≤ a1) (hb : a1 + cntL_Block xs ≤ 1000000000000) (hl0 : xs.length ≤ 1000000000000) (hR : k62.R 62 w base ok v xs) :
    Calls Try.prog 52 #[v, .int .i64 a1] w fun e w' => e = .returned (.int .i64 (a1 + cntL_Block xs)) ∧ Sim w w' (fun k => ok k ∧ base ≤ k) := by
  have HR := Aside0.mk (Kd.R_based hR)
  clear hR
  obtain ⟨A, c, rfl⟩ := Kd.R_slice HR.out
  have HB := Aside0.mk hb
  clear hb
  go_enter Try.func52, Try.ntmps52
  go_wp2
  go_loopw [1, 5] (fun v1 v5 w' => ∃ m : Nat, m ≤ xs.length ∧ v1 = .int .i64 (a1 + cntL_Block (xs.take m)) ∧ v5 = .int .i64 (m : Int) ∧ Aside0 (Sim w w' (fun k => ok k ∧ base ≤ k))) (fun _ v5 _ => xs.length - (intOf v5).toNat)
  case atStart => exact ⟨0, Nat.zero_le _, by simp [cntL_Block], rfl, ⟨Sim.refl _ _⟩⟩
  case round =>
    obtain ⟨m, hm, rfl, rfl, HS⟩ := hrel
    have hle := cntL_Block_le xs m
    by_cases hlt : m < xs.length
    · have htk := cntL_Block_take xs m hlt
      have hle1 := cntL_Block_le xs (m + 1)
      obtain ⟨g, cap, eg, _, _, gc⟩ := Kd.R_form HR.out (by omega)
      injection eg with ea _ ec
      subst ea
      subst ec
      have GS : ok g ∧ base ≤ g := HR.out.1 g rfl
      have HG := Aside0.mk GS
      clear GS
      have GC := Aside0.mk gc
      clear gc
      obtain ⟨x, v0, hx, c0, r0⟩ := laws_markBlockS.elem HR.out m hlt
      rw [← hx] at htk
      have hcx : cnt_Block x = cntL_Instr x.f0 := rfl
      obtain ⟨X, hX⟩ : ∃ X : Int, X = a1 + cntL_Block (xs.take m) := ⟨_, rfl⟩
      rw [← hX]
      have hbb := HB.out
      have hX0 : 0 ≤ X := by omega
      have hX1 : X + (cntL_Instr x.f0 : Nat) ≤ 1000000000000 := by omega
      obtain ⟨q0, hq0⟩ : ∃ q : Nat, q = cntL_Instr x.f0 := ⟨_, rfl⟩
      rw [← hq0] at hX1 hcx
      have R0 := Aside0.mk r0
      clear r0
      have C0 := Aside0.mk c0
      clear c0
      have hfin : a1 + cntL_Block (xs.take (m + 1)) = X + (q0 : Nat) := by omega
      have FIN := Aside0.mk hfin
      have HX := Aside0.mk hX
      have HXX := Aside0.mk hx
      clear hx hcx
      have HQ0 := Aside0.mk hq0
      clear hq0
      clear hfin hX htk hle hle1 hbb
      obtain ⟨A0, n0, k0, s0⟩ := Kd.R_slice' R0.out
      have e0 := HS.out.slc GC.out (C0.out.trans (congrArg some s0))
      have S0 := Aside0.mk s0
      clear s0
      go_wp2_with (first | (go_at_call 72; refine calls_at (fun W => Sim w W (fun k => ok k ∧ base ≤ k)) ?hs_0 ?_; (case hs_0 => repeat (first | exact HS.out | (with_reducible refine Sim.putw ?_ GC.out (by first | exact C0.out | exact C0.out) HG.out))); intro W0 hs0; obtain ⟨l0, P0, L0⟩ := Shp.R shp_Instr hs0 R0.out; rw [S0.out] at P0; have hl0 := cntL_Instr_same L0; have hq0 := HQ0.out; refine (laws_markInstrS.sim _ l0 _ W0 base _ ?pa_0 ?pb_0 P0).mono ?_; (case pa_0 => omega); (case pb_0 => omega); rintro e w0 ⟨rfl, h0⟩; have HS0 := Aside0.mk (hs0.trans (h0.mono (fun _ hk => ⟨hk.1.1, hk.2⟩))); rw [hl0, ← hq0]; clear hs0 h0 hl0 hq0 P0 L0))
      go_roundw
      case measure => simp [intOf]; omega
      case rel => exact ⟨m + 1, by omega, by (first | (rw [FIN.out]; done) | (rw [FIN.out]; go_num)), by go_num, ⟨HS0.out⟩⟩
    · have : m = xs.length := by omega
      subst this
      rw [List.take_length]
      go_wp2
      go_ret
      exact ⟨rfl, HS.out⟩
end Go.Proofs.Ytoedcnhgobbnfaa.All

namespace Go.Proofs.Ytoedcnhgobbnfaa.All
open Go.RowKit Go.Proofs.YtoedcnhgobbnfaaW.PrintWords Go.Proofs.YtoedcnhgobbnfaaW.PrintLast Go.Proofs.YtoedcnhgobbnfaaW.PrintMore
attribute [local go_sem] max2_int min2_int max_two min_two max_three min_three max_four min_four   -- for this text's walks alone
set_option linter.unusedVariables false
set_option linter.unusedSimpArgs false

def laws_markFunc.f (a0_0 : ByteArray) (a0_1 : Int) (l0_2 : List Int) (a0_3 : Int) (l0_4 : List (S62)) (a1 : Int) : Option Int := if 0 ≤ a1 then (if a1 + cntL_int64 l0_2 + cntL_Block l0_4 + l0_4.length ≤ 1000000000000 then some (a1 + cntL_int64 l0_2 + cntL_Block l0_4) else none) else none
set_option maxHeartbeats 4000000 in
set_option maxRecDepth 100000 in
theorem laws_markFunc.calls (a0_0 : ByteArray) (a0_1 : Int) (P0_2_ : Nat → Prop) (u9000_ : Value) (l0_2 : List Int) (a0_3 : Int) (P0_4_ : Nat → Prop) (u9001_ : Value) (l0_4 : List (S62)) (a1 : Int) (r : Int) (w0 w : World) (hB : Below w0.heap.size w0 w) (ho0_2 : Kd.R (Kd.int .i64) 2 w w0.heap.size P0_2_ u9000_ l0_2) (ho0_4 : Kd.R k62 62 w w0.heap.size P0_4_ u9001_ l0_4) (h : laws_markFunc.f a0_0 a0_1 l0_2 a0_3 l0_4 a1 = some r) :
 Calls Try.prog 20 #[.agg #[.string a0_0, .int .i64 a0_1, u9000_, .int .i64 a0_3, u9001_], .int .i64 a1] w fun e w' => e = .returned (.int .i64 r) ∧ Below w0.heap.size w0 w' ∧ Kept w w' (fun k_ => P0_2_ k_ ∨ P0_4_ k_) := by
 unfold laws_markFunc.f at h
 by_cases h0 : 0 ≤ a1
 · rw [if_pos h0] at h
   by_cases h1 : a1 + cntL_int64 l0_2 + cntL_Block l0_4 + l0_4.length ≤ 1000000000000
   · rw [if_pos h1] at h
     obtain rfl := Option.some.inj h
     clear h
     have HB := Aside0.mk hB
     have H2 := Aside0.mk ho0_2
     have H4 := Aside0.mk ho0_4
     have H1 := Aside0.mk h1
     obtain ⟨A2, c2, n2, rfl⟩ := Kd.R_slice' ho0_2
     obtain ⟨A4, c4, n4, rfl⟩ := Kd.R_slice' ho0_4
     clear hB ho0_2 ho0_4 h1
     have hu := Try.underlying30
     go_enter Try.func20, Try.ntmps20
     go_wp2_with (first | (go_at_call 21; refine calls_at (fun W => Below w.heap.size w W ∧ W.heap[w.heap.size]? = some (.cells #[.string a0_0, .int .i64 a0_1, .slice A2 c2 n2, .int .i64 a0_3, .slice A4 c4 n4] 30 (0, 0))) ?hs ?_; (case hs => exact ⟨below_alloc (Below.refl _ _) _, blk_new _ _⟩); rintro W1 ⟨hs1, hk1⟩; have r2 := Kd.R_below (Kd.R_old2 H2.out) hs1; refine (laws_markInt64S.sim _ l0_2 _ W1 w0.heap.size (fun k => P0_2_ k ∧ k < w.heap.size) ?pa ?pb r2).mono ?_; (case pa => exact h0); (case pb => have := H1.out; omega); rintro e w2 ⟨rfl, g1⟩; have hlt := blk_lt hk1; have HS1 := Aside0.mk hs1; have G1 := Aside0.mk g1; have K2 := Aside0.mk ((g1.out w.heap.size hlt (fun hk => absurd hk.1.2 (Nat.lt_irrefl _))).trans hk1); have d4 : w2.cell? ⟨w.heap.size, 4, none⟩ = some (.slice A4 c4 n4) := (blk_cell K2.out 4).trans rfl; clear hs1 g1 hk1 r2 hlt) | (go_at_call 52; obtain ⟨l4, r4, e4⟩ := Shp.R shp_Block G1.out (Kd.R_below H4.out HS1.out); refine (laws_markBlockS.sim _ l4 _ w2 w0.heap.size P0_4_ ?pc ?pd ?pe r4).mono ?_; (case pc => omega); (case pd => have := H1.out; have := cntL_Block_same e4; omega); (case pe => have := H1.out; have := e4.1; omega); rintro e w3 ⟨rfl, g3⟩; have G3 := Aside0.mk g3; have E4 := Aside0.mk (cntL_Block_same e4); clear g3 r4 e4))
     go_ret
     have hb1 : Below w0.heap.size w0 w2 := G1.out.below0 (below_then HB.out HB.out.size HS1.out) (fun k hk => hk.2)
     exact ⟨by rw [E4.out]; rfl, G3.out.below0 hb1 (fun k hk => hk.2), ((Kept.of_below HS1.out _).then_ G1.out.kept (fun k hk => .inl (.inl hk.1.1))).then_ G3.out.kept (fun k hk => .inl (.inr hk.1))⟩
   · rw [if_neg h1] at h; cases h
 · rw [if_neg h0] at h; cases h

set_option linter.unusedVariables false
set_option linter.unusedSimpArgs false

def spec_l4Has.l0 : Nat → List Int → Int → Int → Option (Bool)
 | 0, _, _, _ => none
 | k + 1, x0, x1, x5 => if x5 < (x0.length : Int) then (if 0 ≤ x5 then (if (rd x0 x5) = x1 then (some true) else (spec_l4Has.l0 k x0 x1 (wrap64 (x5 + 1)))) else (none)) else (some false)
def spec_l4Has.f (k : Nat) (l0 : List Int) (a1 : Int) : Option (Bool) := spec_l4Has.l0 k l0 a1 0
set_option maxHeartbeats 8000000 in
set_option maxRecDepth 100000 in
theorem spec_l4Has.calls (k : Nat) (A0 : Option Addr) (c0 : Nat) (l0 : List Int) (a1 : Int) (r : Bool) (w : World) (hr0 : Kd.C (Kd.int .i64) w A0 l0.length l0) (hc0 : l0.length ≤ c0) (h : spec_l4Has.f k l0 a1 = some r) :
 Calls Try.prog 51 #[.slice A0 l0.length c0, .int .i64 a1] w fun e w' => e = .returned (.bool r) ∧ Drawn0 w w' := by
 have HR0 := Aside0.mk hr0
 have HC0 := Aside0.mk hc0
 clear hr0 hc0
 have H : (spec_l4Has.l0 k l0 a1 0) = some r := h
 clear h
 have H' := Aside0.mk H
 clear H
 go_enter Try.func51, Try.ntmps51
 go_wp2
 go_loopg [5] k (fun kq v5 w' => ∃ (x5_1 : Int), v5 = .int .i64 x5_1 ∧ Aside0 (spec_l4Has.l0 kq l0 a1 x5_1 = some r) ∧ Aside0 (kq ≤ k) ∧ Drawn0 w w')
 case atStart => exact ⟨(0), sz_, H', ⟨Nat.le_refl _⟩, by repeat (first | exact Drawn0.refl _ | apply Drawn0.step)⟩
 case round =>
  clear H'
  try clear p2
  obtain ⟨x5_1, rfl, HA, HK1, ⟨m1, rfl⟩⟩ := hrel
  cases gk with
  | zero => exact absurd HA.out (by simp [spec_l4Has.l0])
  | succ k1 =>
   have H := HA.out
   clear HA
   simp only [spec_l4Has.l0] at H
   by_cases c3 : x5_1 < (l0.length : Int)
   · rw [if_pos c3] at H
     have c3b0 : decide (x5_1 < (l0.length : Int)) = true := decide_eq_true c3
     clear c3
     by_cases c4 : 0 ≤ x5_1
     · rw [if_pos c4] at H
       have c4b0 : decide (0 ≤ x5_1) = true := decide_eq_true c4
       clear c4
       by_cases c5 : (rd l0 x5_1) = a1
       · rw [if_pos c5] at H
         have c5b0 : ((rd l0 x5_1) == a1) = true := beq_iff_eq.mpr c5
         have c5b1 : ((rd l0 x5_1) != a1) = false := bne_eq_false_iff_eq.mpr c5
         clear c5
         obtain rfl := Option.some.inj H
         have p114 : 0 ≤ (x5_1 : Int) := of_decide_eq_true az
         have q114 : x5_1 < (l0.length : Int) := of_decide_eq_true az
         obtain ⟨ad114, e114, hx114_0⟩ := Kd.at_int HR0.out x5_1 p114 q114
         cases e114
         replace p114 := eq_true p114
         replace q114 := eq_true q114
         go_wp2
         go_ret
         exact ⟨by first | rfl | (simp; done) | (simp [*]; done), by repeat (first | exact Drawn0.refl _ | apply Drawn0.step)⟩
       · rw [if_neg c5] at H
         have c5b0 : ((rd l0 x5_1) == a1) = false := beq_eq_false_iff_ne.mpr c5
         have c5b1 : ((rd l0 x5_1) != a1) = true := bne_iff_ne.mpr c5
         have H' := Aside0.mk H
         clear H
         have p114 : 0 ≤ (x5_1 : Int) := of_decide_eq_true az
         have q114 : x5_1 < (l0.length : Int) := of_decide_eq_true az
         obtain ⟨ad114, e114, hx114_0⟩ := Kd.at_int HR0.out x5_1 p114 q114
         cases e114
         replace p114 := eq_true p114
         replace q114 := eq_true q114
         go_wp2
         go_roundg k1
         case measure => have := HK1.out; omega
         case rel => exact ⟨(wrap64 (x5_1 + 1)), sz_, H', ⟨by have := HK1.out; omega⟩, by repeat (first | exact Drawn0.refl _ | apply Drawn0.step)⟩
     · rw [if_neg c4] at H
       exact absurd H (by simp)
   · rw [if_neg c3] at H
     have c3b0 : decide (x5_1 < (l0.length : Int)) = false := decide_eq_false c3
     clear c3
     obtain rfl := Option.some.inj H
     go_wp2
     go_ret
     exact ⟨by first | rfl | (simp; done) | (simp [*]; done), by repeat (first | exact Drawn0.refl _ | apply Drawn0.step)⟩

set_option linter.unusedVariables false
set_option linter.unusedSimpArgs false

mutual
def spec_NextBlocks.j0 : Nat → Int → List Int → Bool → ByteArray → Int → List Int → Int → List (S62) → Option (List Int)
 | 0, _, _, _, _, _, _, _, _ => none
 | k + 1, x1, x5, x29, x116000, x116001, x116002, x116003, x116004 => if x29 = true then (some x5) else (if 0 ≤ x1 then (if x1 < (x116004.length : Int) then (if 0 ≤ (wrap64 ((((rd_T62 x116004 x1).f0).length : Int) - 1)) then (if (wrap64 ((((rd_T62 x116004 x1).f0).length : Int) - 1)) < (((rd_T62 x116004 x1).f0).length : Int) then (spec_NextBlocks.l0 k x5 0 x116000 x116001 x116002 x116003 x116004 ((rd_T66 ((rd_T62 x116004 x1).f0) (wrap64 ((((rd_T62 x116004 x1).f0).length : Int) - 1))).f0) ((rd_T66 ((rd_T62 x116004 x1).f0) (wrap64 ((((rd_T62 x116004 x1).f0).length : Int) - 1))).f1) ((rd_T66 ((rd_T62 x116004 x1).f0) (wrap64 ((((rd_T62 x116004 x1).f0).length : Int) - 1))).f2) ((rd_T66 ((rd_T62 x116004 x1).f0) (wrap64 ((((rd_T62 x116004 x1).f0).length : Int) - 1))).f3) ((rd_T66 ((rd_T62 x116004 x1).f0) (wrap64 ((((rd_T62 x116004 x1).f0).length : Int) - 1))).f4) ((rd_T66 ((rd_T62 x116004 x1).f0) (wrap64 ((((rd_T62 x116004 x1).f0).length : Int) - 1))).f5) ((rd_T66 ((rd_T62 x116004 x1).f0) (wrap64 ((((rd_T62 x116004 x1).f0).length : Int) - 1))).f6) ((rd_T66 ((rd_T62 x116004 x1).f0) (wrap64 ((((rd_T62 x116004 x1).f0).length : Int) - 1))).f7) ((rd_T66 ((rd_T62 x116004 x1).f0) (wrap64 ((((rd_T62 x116004 x1).f0).length : Int) - 1))).f8)) else (none)) else (none)) else (none)) else (none))
def spec_NextBlocks.l0 : Nat → List Int → Int → ByteArray → Int → List Int → Int → List (S62) → Int → Int → Int → Int → Int → Int → List (S75) → List Int → List Int → Option (List Int)
 | 0, _, _, _, _, _, _, _, _, _, _, _, _, _, _, _, _ => none
 | k + 1, x5, x8, x116000, x116001, x116002, x116003, x116004, x123000, x123001, x123002, x123003, x123004, x123005, x123006, x123007, x123008 => if x8 < (x123007.length : Int) then (if 0 ≤ x8 then (if (rd x123007 x8) ≥ 0 then (if (rd x123007 x8) < (x116004.length : Int) then ((spec_l4Has.f k x5 (rd x123007 x8)).bind fun t124 => (if t124 = true then (spec_NextBlocks.l0 k x5 (wrap64 (x8 + 1)) x116000 x116001 x116002 x116003 x116004 x123000 x123001 x123002 x123003 x123004 x123005 x123006 x123007 x123008) else (if x5.length < 17592186044416 then (spec_NextBlocks.l0 k (x5 ++ [rd x123007 x8]) (wrap64 (x8 + 1)) x116000 x116001 x116002 x116003 x116004 x123000 x123001 x123002 x123003 x123004 x123005 x123006 x123007 x123008) else (none)))) else (spec_NextBlocks.l0 k x5 (wrap64 (x8 + 1)) x116000 x116001 x116002 x116003 x116004 x123000 x123001 x123002 x123003 x123004 x123005 x123006 x123007 x123008)) else (spec_NextBlocks.l0 k x5 (wrap64 (x8 + 1)) x116000 x116001 x116002 x116003 x116004 x123000 x123001 x123002 x123003 x123004 x123005 x123006 x123007 x123008)) else (none)) else (some x5)
end
def spec_NextBlocks.f (k : Nat) (a0_0 : ByteArray) (a0_1 : Int) (l0_2 : List Int) (a0_3 : Int) (l0_4 : List (S62)) (a1 : Int) : Option (List Int) := (some (([] : List Int) : List Int)).bind fun y116 => (if a1 < 0 then (spec_NextBlocks.j0 k a1 y116 true a0_0 a0_1 l0_2 a0_3 l0_4) else (if a1 ≥ (l0_4.length : Int) then (spec_NextBlocks.j0 k a1 y116 true a0_0 a0_1 l0_2 a0_3 l0_4) else (if 0 ≤ a1 then (if a1 < (l0_4.length : Int) then (spec_NextBlocks.j0 k a1 y116 ((((rd_T62 l0_4 a1).f0).length : Int) == 0) a0_0 a0_1 l0_2 a0_3 l0_4) else (none)) else (none))))
set_option maxHeartbeats 8000000 in
set_option maxRecDepth 100000 in
theorem spec_NextBlocks.calls (k : Nat) (a0_0 : ByteArray) (a0_1 : Int) (A0_2 : Option Addr) (c0_2 : Nat) (l0_2 : List Int) (a0_3 : Int) (A0_4 : Option Addr) (c0_4 : Nat) (l0_4 : List (S62)) (a1 : Int) (r : List Int) (w : World) (hr0_2 : Kd.C (Kd.int .i64) w A0_2 l0_2.length l0_2) (hc0_2 : l0_2.length ≤ c0_2) (hr0_4 : Kd.C k62 w A0_4 l0_4.length l0_4) (hc0_4 : l0_4.length ≤ c0_4) (h : spec_NextBlocks.f k a0_0 a0_1 l0_2 a0_3 l0_4 a1 = some r) :
 Calls Try.prog 17 #[.agg #[.string a0_0, .int .i64 a0_1, .slice A0_2 l0_2.length c0_2, .int .i64 a0_3, .slice A0_4 l0_4.length c0_4], .int .i64 a1] w fun e w' => ∃ v0_ : Value, e = .returned (v0_) ∧ Kd.R (Kd.int .i64) 2 w' w.heap.size (fun _ => True) v0_ r ∧ Below w.heap.size w w' := by
 have hu30 := Try.underlying30
 have hu66 := Try.underlying66
 have HR0_2 := Aside0.mk hr0_2
 have HC0_2 := Aside0.mk hc0_2
 clear hr0_2 hc0_2
 have HR0_4 := Aside0.mk hr0_4
 have HC0_4 := Aside0.mk hc0_4
 clear hr0_4 hc0_4
 have HB := Aside0.mk (Below.refl w.heap.size w)
 have H : ((some (([] : List Int) : List Int)).bind fun y116 => (if a1 < 0 then (spec_NextBlocks.j0 k a1 y116 true a0_0 a0_1 l0_2 a0_3 l0_4) else (if a1 ≥ (l0_4.length : Int) then (spec_NextBlocks.j0 k a1 y116 true a0_0 a0_1 l0_2 a0_3 l0_4) else (if 0 ≤ a1 then (if a1 < (l0_4.length : Int) then (spec_NextBlocks.j0 k a1 y116 ((((rd_T62 l0_4 a1).f0).length : Int) == 0) a0_0 a0_1 l0_2 a0_3 l0_4) else (none)) else (none))))) = some r := h
 clear h
 obtain ⟨y116, hy116⟩ : ∃ y_ : List Int, y_ = (([] : List Int)) := ⟨_, rfl⟩
 replace H : (if a1 < 0 then (spec_NextBlocks.j0 k a1 y116 true a0_0 a0_1 l0_2 a0_3 l0_4) else (if a1 ≥ (l0_4.length : Int) then (spec_NextBlocks.j0 k a1 y116 true a0_0 a0_1 l0_2 a0_3 l0_4) else (if 0 ≤ a1 then (if a1 < (l0_4.length : Int) then (spec_NextBlocks.j0 k a1 y116 ((((rd_T62 l0_4 a1).f0).length : Int) == 0) a0_0 a0_1 l0_2 a0_3 l0_4) else (none)) else (none)))) = some r := by first | (rw [hy116]; with_reducible exact H) | (have H2_ := (Option.bind_some _ _).symm.trans H; rw [hy116]; with_reducible exact H2_) | (have H2_ := (Option.bind_some _ _).symm.trans H; with_reducible exact H2_) | with_reducible exact H | (rw [hy116]; exact H) | exact H
 have Ny116 := Aside0.mk hy116
 clear hy116
 have HC3 := Aside0.mk H
 clear H
 go_enter Try.func17, Try.ntmps17
 go_upto_region 2 with (first | ((with_reducible refine gate_dst (N := 2) rfl ?_); (try (refine gate_guard (by rfl) ?_; dsimp only)); refine box_event ?hg (N := 2) ?hd (cs := #[.string a0_0, .int .i64 a0_1, .slice A0_2 l0_2.length c0_2, .int .i64 a0_3, .slice A0_4 l0_4.length c0_4]) (t := 30) ?hr ?_; (case hd => rfl); (case hg => rfl); (case hr => first | (go_simp; done) | (go_simp; rfl)); intro gb115 hg w4 hbox hb; have n0_ := Aside0.mk (below_step bz hb); have n1_ := Aside0.mk (hbox); have n2_ := Aside0.mk ((by rw [hg]; exact (below_size bz) : w.heap.size ≤ gb115)); have n3_ := Aside0.mk ((by rw [hg]; exact (below_size bz) : w.heap.size ≤ gb115)); clear HB; have HB := n0_; have BK115 := n1_; have GW115 := n2_; have GE115 := n3_; clear n0_ n1_ n2_ n3_; clear hb hbox hg) | ((with_reducible refine gate_dst (N := 10) rfl ?_); (try (refine gate_guard (by rfl) ?_; dsimp only)); refine Kd.R_lit (Kd.int .i64) _ 2 ?hg (N := 10) ?hd (xs := ([] : List Int)) (inner := []) (ok := fun _ => True) (okp := fun _ => True) ?hr ?hp (fun _ hk => hk) trivial (Below.refl _ _) (Nat.le_refl _) (by simp) ?_; (case hd => rfl); (case hg => rfl); (case hr => first | (go_simp; done) | (go_simp; rfl)); (case hp => exact (Reps.none _ _)); intro v117 w5 ho6 hb hg_ hnew_; clear hg_ hnew_; (first | rw [← Ny116.out] at ho6 | (simp only [Int.reduceToNat] at ho6; rw [← Ny116.out] at ho6)); have n0_ := Aside0.mk (Kd.R_lower ho6 (below_size bz)); have n1_ := Aside0.mk (blk_below (g := gb115) (o := .cells #[.string a0_0, .int .i64 a0_1, .slice A0_2 l0_2.length c0_2, .int .i64 a0_3, .slice A0_4 l0_4.length c0_4] 30 (0, 0)) kz hb); have n2_ := Aside0.mk (below_step bz hb); clear BK115; clear HB; have HO118 := n0_; have BK115 := n1_; have HB := n2_; clear n0_ n1_ n2_; clear hb ho6))
 (try simp only [Act.put, sx1, sx2, sx3])
 go_cut [29] (fun v29 wc => ∃ (kq : Nat) (x29_2 : Bool), v29 = .bool x29_2 ∧ Aside0 (spec_NextBlocks.j0 kq a1 y116 x29_2 a0_0 a0_1 l0_2 a0_3 l0_4 = some r) ∧ Aside0 (kq ≤ k) ∧ Aside0 (Kd.R (Kd.int .i64) 2 wc w.heap.size (fun _ => True) v117 y116) ∧ Aside0 (wc.heap[gb115]? = some (.cells #[.string a0_0, .int .i64 a0_1, (.slice A0_2 l0_2.length c0_2), .int .i64 a0_3, (.slice A0_4 l0_4.length c0_4)] 30 (0, 0))) ∧ Aside0 (Below w.heap.size w wc))
 case first =>
  have H := HC3.out
  clear HC3
  by_cases c7 : a1 < 0
  · rw [if_pos c7] at H
    have c7b0 : decide (a1 < 0) = true := decide_eq_true c7
    clear c7
    (first | rw [c7b0] | (simp only [i64_w, i32_w]; rw [c7b0]) | skip)
    have H' := Aside0.mk H
    clear H
    go_wp2
    go_meet
    case rel => exact ⟨_, (true), sz_, H', ⟨by first | omega | exact Nat.le_refl _⟩, ⟨by (with_reducible repeat (first | apply Kd.R_alloc | apply Kd.R_drewN | apply Kd.R_drew)); exact HO118.out⟩, ⟨ kz⟩, ⟨ bz⟩⟩
  · rw [if_neg c7] at H
    have c7b0 : decide (a1 < 0) = false := decide_eq_false c7
    clear c7
    (first | rw [c7b0] | (simp only [i64_w, i32_w]; rw [c7b0]) | skip)
    by_cases c8 : a1 ≥ (l0_4.length : Int)
    · rw [if_pos c8] at H
      have c8b0 : decide ((l0_4.length : Int) ≤ a1) = true := decide_eq_true c8
      clear c8
      have H' := Aside0.mk H
      clear H
      have hcz9_0 : w5.cell? ⟨gb115, 0, none⟩ = some (.string a0_0) := (blk_cell BK115.out 0).trans rfl
      have hcz9_1 : w5.cell? ⟨gb115, 1, none⟩ = some (.int .i64 a0_1) := (blk_cell BK115.out 1).trans rfl
      have hcz9_2 : w5.cell? ⟨gb115, 2, none⟩ = some (.slice A0_2 l0_2.length c0_2) := (blk_cell BK115.out 2).trans rfl
      have hcz9_3 : w5.cell? ⟨gb115, 3, none⟩ = some (.int .i64 a0_3) := (blk_cell BK115.out 3).trans rfl
      have hcz9_4 : w5.cell? ⟨gb115, 4, none⟩ = some (.slice A0_4 l0_4.length c0_4) := (blk_cell BK115.out 4).trans rfl
      have hfz9_0 := blk_frozen BK115.out 0
      have hfz9_1 := blk_frozen BK115.out 1
      have hfz9_2 := blk_frozen BK115.out 2
      have hfz9_3 := blk_frozen BK115.out 3
      have hfz9_4 := blk_frozen BK115.out 4
      go_wp2
      go_meet
      case rel => exact ⟨_, (true), sz_, H', ⟨by first | omega | exact Nat.le_refl _⟩, ⟨by (with_reducible repeat (first | apply Kd.R_alloc | apply Kd.R_drewN | apply Kd.R_drew)); exact HO118.out⟩, ⟨ kz⟩, ⟨ bz⟩⟩
    · rw [if_neg c8] at H
      have c8b0 : decide ((l0_4.length : Int) ≤ a1) = false := decide_eq_false c8
      clear c8
      by_cases c10 : 0 ≤ a1
      · rw [if_pos c10] at H
        have c10b0 : decide (0 ≤ a1) = true := decide_eq_true c10
        clear c10
        by_cases c11 : a1 < (l0_4.length : Int)
        · rw [if_pos c11] at H
          have c11b0 : decide (a1 < (l0_4.length : Int)) = true := decide_eq_true c11
          clear c11
          have H' := Aside0.mk H
          clear H
          have hcz12_0 : w5.cell? ⟨gb115, 0, none⟩ = some (.string a0_0) := (blk_cell BK115.out 0).trans rfl
          have hcz12_1 : w5.cell? ⟨gb115, 1, none⟩ = some (.int .i64 a0_1) := (blk_cell BK115.out 1).trans rfl
          have hcz12_2 : w5.cell? ⟨gb115, 2, none⟩ = some (.slice A0_2 l0_2.length c0_2) := (blk_cell BK115.out 2).trans rfl
          have hcz12_3 : w5.cell? ⟨gb115, 3, none⟩ = some (.int .i64 a0_3) := (blk_cell BK115.out 3).trans rfl
          have hcz12_4 : w5.cell? ⟨gb115, 4, none⟩ = some (.slice A0_4 l0_4.length c0_4) := (blk_cell BK115.out 4).trans rfl
          have hfz12_0 := blk_frozen BK115.out 0
          have hfz12_1 := blk_frozen BK115.out 1
          have hfz12_2 := blk_frozen BK115.out 2
          have hfz12_3 := blk_frozen BK115.out 3
          have hfz12_4 := blk_frozen BK115.out 4
          have p119 : 0 ≤ (a1 : Int) := of_decide_eq_true az
          have q119 : a1 < (l0_4.length : Int) := of_decide_eq_true az
          obtain ⟨ad119, A119_0, c119_0, e119, hx119_0, hl119_0, hi119_0⟩ := at_T62 HR0_4.out a1 p119 q119
          cases e119
          replace hx119_0 := ck HB hx119_0
          have HR119_0 := Aside0.mk hi119_0
          have HC119_0 := Aside0.mk hl119_0
          clear hi119_0 hl119_0
          replace p119 := eq_true p119
          replace q119 := eq_true q119
          go_wp2
          go_meet
          case rel => exact ⟨_, (((((rd_T62 l0_4 a1).f0).length : Int) == 0)), sz_, H', ⟨by first | omega | exact Nat.le_refl _⟩, ⟨by (with_reducible repeat (first | apply Kd.R_alloc | apply Kd.R_drewN | apply Kd.R_drew)); exact HO118.out⟩, ⟨ kz⟩, ⟨ bz⟩⟩
        · rw [if_neg c11] at H
          exact absurd H (by simp)
      · rw [if_neg c10] at H
        exact absurd H (by simp)
 case rest =>
  clear HC3
  try clear c1
  try clear p1
  try clear q1
  try clear hx1
  try clear p2
  try clear c7
  try clear c7b0
  try clear c8
  try clear c8b0
  try clear c10
  try clear c10b0
  try clear c11
  try clear c11b0
  try clear p11
  try clear q11
  try clear hx11
  try clear hcz12_0
  try clear hcz12_1
  try clear hcz12_2
  try clear hcz12_3
  try clear hcz12_4
  try clear hcz9_0
  try clear hcz9_1
  try clear hcz9_2
  try clear hcz9_3
  try clear hcz9_4
  try clear hfz12_0
  try clear hfz12_1
  try clear hfz12_2
  try clear hfz12_3
  try clear hfz12_4
  try clear hfz9_0
  try clear hfz9_1
  try clear hfz9_2
  try clear hfz9_3
  try clear hfz9_4
  try clear hx119_0
  try clear p119
  try clear q119
  obtain ⟨kq, x29_2, rfl, HA, HJ2, HO_5, BK115, HB⟩ := hcut
  cases kq with
  | zero => exact absurd HA.out (by simp [spec_NextBlocks.j0])
  | succ kj2 =>
   have H := HA.out
   clear HA
   simp only [spec_NextBlocks.j0] at H
   by_cases c13 : x29_2 = true
   · subst c13
     have H1 : (some y116) = some r := by rw [if_pos rfl] at H; exact H
     clear H
     have H := H1
     clear H1
     obtain rfl := Option.some.inj H
     go_wp2
     go_ret
     exact ⟨_, by first | rfl | (simp [errW_none, errW_some] <;> rfl) | (simp [*, errW_none, errW_some] <;> rfl), by (with_reducible repeat (first | apply Kd.R_alloc | apply Kd.R_drewN | apply Kd.R_drew)); exact HO_5.out, bz⟩
   · replace c13 := Bool.eq_false_iff.mpr c13
     subst c13
     have H1 : (if 0 ≤ a1 then (if a1 < (l0_4.length : Int) then (if 0 ≤ (wrap64 ((((rd_T62 l0_4 a1).f0).length : Int) - 1)) then (if (wrap64 ((((rd_T62 l0_4 a1).f0).length : Int) - 1)) < (((rd_T62 l0_4 a1).f0).length : Int) then (spec_NextBlocks.l0 kj2 y116 0 a0_0 a0_1 l0_2 a0_3 l0_4 ((rd_T66 ((rd_T62 l0_4 a1).f0) (wrap64 ((((rd_T62 l0_4 a1).f0).length : Int) - 1))).f0) ((rd_T66 ((rd_T62 l0_4 a1).f0) (wrap64 ((((rd_T62 l0_4 a1).f0).length : Int) - 1))).f1) ((rd_T66 ((rd_T62 l0_4 a1).f0) (wrap64 ((((rd_T62 l0_4 a1).f0).length : Int) - 1))).f2) ((rd_T66 ((rd_T62 l0_4 a1).f0) (wrap64 ((((rd_T62 l0_4 a1).f0).length : Int) - 1))).f3) ((rd_T66 ((rd_T62 l0_4 a1).f0) (wrap64 ((((rd_T62 l0_4 a1).f0).length : Int) - 1))).f4) ((rd_T66 ((rd_T62 l0_4 a1).f0) (wrap64 ((((rd_T62 l0_4 a1).f0).length : Int) - 1))).f5) ((rd_T66 ((rd_T62 l0_4 a1).f0) (wrap64 ((((rd_T62 l0_4 a1).f0).length : Int) - 1))).f6) ((rd_T66 ((rd_T62 l0_4 a1).f0) (wrap64 ((((rd_T62 l0_4 a1).f0).length : Int) - 1))).f7) ((rd_T66 ((rd_T62 l0_4 a1).f0) (wrap64 ((((rd_T62 l0_4 a1).f0).length : Int) - 1))).f8)) else (none)) else (none)) else (none)) else (none)) = some r := by rw [if_neg (show ¬ (false = true) by decide)] at H; exact H
     clear H
     have H := H1
     clear H1
     by_cases c14 : 0 ≤ a1
     · rw [if_pos c14] at H
       have c14b0 : decide (0 ≤ a1) = true := decide_eq_true c14
       clear c14
       by_cases c15 : a1 < (l0_4.length : Int)
       · rw [if_pos c15] at H
         have c15b0 : decide (a1 < (l0_4.length : Int)) = true := decide_eq_true c15
         clear c15
         obtain ⟨ji16, hji16⟩ : ∃ j_ : Int, (wrap64 ((((rd_T62 l0_4 a1).f0).length : Int) - 1)) = j_ := ⟨_, rfl⟩
         replace H : (if 0 ≤ (ji16) then (if (ji16) < (((rd_T62 l0_4 a1).f0).length : Int) then (spec_NextBlocks.l0 kj2 y116 0 a0_0 a0_1 l0_2 a0_3 l0_4 ((rd_T66 ((rd_T62 l0_4 a1).f0) (ji16)).f0) ((rd_T66 ((rd_T62 l0_4 a1).f0) (ji16)).f1) ((rd_T66 ((rd_T62 l0_4 a1).f0) (ji16)).f2) ((rd_T66 ((rd_T62 l0_4 a1).f0) (ji16)).f3) ((rd_T66 ((rd_T62 l0_4 a1).f0) (ji16)).f4) ((rd_T66 ((rd_T62 l0_4 a1).f0) (ji16)).f5) ((rd_T66 ((rd_T62 l0_4 a1).f0) (ji16)).f6) ((rd_T66 ((rd_T62 l0_4 a1).f0) (ji16)).f7) ((rd_T66 ((rd_T62 l0_4 a1).f0) (ji16)).f8)) else (none)) else (none)) = some r := by first | (rw [hji16] at H; exact H) | (simp only [hji16] at H ⊢; exact H)
         have hji16w : (IntKind.i64.wrap ((((rd_T62 l0_4 a1).f0).length : Int) - 1)) = ji16 := (i64_w _).trans hji16
         by_cases c17 : 0 ≤ (ji16)
         · rw [if_pos c17] at H
           have c17b0 : decide (0 ≤ (ji16)) = true := decide_eq_true c17
           clear c17
           by_cases c18 : (ji16) < (((rd_T62 l0_4 a1).f0).length : Int)
           · rw [if_pos c18] at H
             have c18b0 : decide ((ji16) < (((rd_T62 l0_4 a1).f0).length : Int)) = true := decide_eq_true c18
             clear c18
             have H' := Aside0.mk H
             clear H
             have hcz19_0 : wc.cell? ⟨gb115, 0, none⟩ = some (.string a0_0) := (blk_cell BK115.out 0).trans rfl
             have hcz19_1 : wc.cell? ⟨gb115, 1, none⟩ = some (.int .i64 a0_1) := (blk_cell BK115.out 1).trans rfl
             have hcz19_2 : wc.cell? ⟨gb115, 2, none⟩ = some (.slice A0_2 l0_2.length c0_2) := (blk_cell BK115.out 2).trans rfl
             have hcz19_3 : wc.cell? ⟨gb115, 3, none⟩ = some (.int .i64 a0_3) := (blk_cell BK115.out 3).trans rfl
             have hcz19_4 : wc.cell? ⟨gb115, 4, none⟩ = some (.slice A0_4 l0_4.length c0_4) := (blk_cell BK115.out 4).trans rfl
             have hfz19_0 := blk_frozen BK115.out 0
             have hfz19_1 := blk_frozen BK115.out 1
             have hfz19_2 := blk_frozen BK115.out 2
             have hfz19_3 := blk_frozen BK115.out 3
             have hfz19_4 := blk_frozen BK115.out 4
             have p120 : 0 ≤ (a1 : Int) := of_decide_eq_true az
             have q120 : a1 < (l0_4.length : Int) := of_decide_eq_true az
             obtain ⟨ad120, A120_0, c120_0, e120, hx120_0, hl120_0, hi120_0⟩ := at_T62 HR0_4.out a1 p120 q120
             cases e120
             replace hx120_0 := ck HB hx120_0
             have HR120_0 := Aside0.mk hi120_0
             have HC120_0 := Aside0.mk hl120_0
             clear hi120_0 hl120_0
             replace p120 := eq_true p120
             replace q120 := eq_true q120
             have p121 : 0 ≤ ((ji16) : Int) := of_decide_eq_true az
             have q121 : (ji16) < (((rd_T62 l0_4 a1).f0).length : Int) := of_decide_eq_true az
             obtain ⟨ad121, A121_6, c121_6, A121_7, c121_7, A121_8, c121_8, e121, hx121_0, hx121_1, hx121_2, hx121_3, hx121_4, hx121_5, hx121_6, hx121_7, hx121_8, hl121_6, hi121_6, hl121_7, hi121_7, hl121_8, hi121_8⟩ := at_T66 HR120_0.out (ji16) p121 q121
             cases e121
             replace hx121_0 := ck HB hx121_0
             replace hx121_1 := ck HB hx121_1
             replace hx121_2 := ck HB hx121_2
             replace hx121_3 := ck HB hx121_3
             replace hx121_4 := ck HB hx121_4
             replace hx121_5 := ck HB hx121_5
             replace hx121_6 := ck HB hx121_6
             replace hx121_7 := ck HB hx121_7
             replace hx121_8 := ck HB hx121_8
             have HR121_6 := Aside0.mk hi121_6
             have HC121_6 := Aside0.mk hl121_6
             clear hi121_6 hl121_6
             have HR121_7 := Aside0.mk hi121_7
             have HC121_7 := Aside0.mk hl121_7
             clear hi121_7 hl121_7
             have HR121_8 := Aside0.mk hi121_8
             have HC121_8 := Aside0.mk hl121_8
             clear hi121_8 hl121_8
             replace p121 := eq_true p121
             replace q121 := eq_true q121
             go_wp2_with (first | ((with_reducible refine gate_dst (N := 7) rfl ?_); (try (refine gate_guard (by rfl) ?_; dsimp only)); refine box_event ?hg (N := 7) ?hd (cs := #[.int .i64 0, .int .i64 0, .int .i64 0, .int .i64 0, .int .i64 0, .int .i64 0, .slice none 0 0, .slice none 0 0, .slice none 0 0]) (t := 66) ?hr ?_; (case hd => rfl); (case hg => rfl); (case hr => first | (go_simp; done) | (go_simp; rfl)); intro gb122 hg w20 hbox hb; have n0_ := Aside0.mk (Kd.R_below (rz HO_5.out) hb); have n1_ := Aside0.mk (blk_below (g := gb115) (o := .cells #[.string a0_0, .int .i64 a0_1, .slice A0_2 l0_2.length c0_2, .int .i64 a0_3, .slice (some ad120) l0_4.length c0_4] 30 (0, 0)) kz hb); have n2_ := Aside0.mk (below_step bz hb); have n3_ := Aside0.mk (hbox); have n4_ := Aside0.mk ((by rw [hg]; exact (below_size bz) : w.heap.size ≤ gb122)); have n5_ := Aside0.mk ((by rw [hg]; exact (below_size bz) : w.heap.size ≤ gb122)); have n6_ := Aside0.mk ((by rw [hg]; exact Nat.ne_of_lt (blk_lt (g := gb115) (o := .cells #[.string a0_0, .int .i64 a0_1, .slice A0_2 l0_2.length c0_2, .int .i64 a0_3, .slice (some ad120) l0_4.length c0_4] 30 (0, 0)) kz) : gb115 ≠ gb122)); have n7_ := Aside0.mk ((by rw [hg]; exact Nat.ne_of_gt (blk_lt (g := gb115) (o := .cells #[.string a0_0, .int .i64 a0_1, .slice A0_2 l0_2.length c0_2, .int .i64 a0_3, .slice (some ad120) l0_4.length c0_4] 30 (0, 0)) kz) : gb122 ≠ gb115)); clear HO_5; clear BK115; clear HB; have HO_5 := n0_; have BK115 := n1_; have HB := n2_; have BK122 := n3_; have GW122 := n4_; have GE122 := n5_; have NB115_122 := n6_; have NB122_115 := n7_; clear n0_ n1_ n2_ n3_ n4_ n5_ n6_ n7_; clear hb hbox hg; have hnb21 := NB122_115.out; have hnc21 := NB115_122.out; have hcz22_0 : w20.cell? ⟨gb122, 0, none⟩ = some (.int .i64 0) := (blk_cell BK122.out 0).trans rfl; have hcz22_1 : w20.cell? ⟨gb122, 1, none⟩ = some (.int .i64 0) := (blk_cell BK122.out 1).trans rfl; have hcz22_2 : w20.cell? ⟨gb122, 2, none⟩ = some (.int .i64 0) := (blk_cell BK122.out 2).trans rfl; have hcz22_3 : w20.cell? ⟨gb122, 3, none⟩ = some (.int .i64 0) := (blk_cell BK122.out 3).trans rfl; have hcz22_4 : w20.cell? ⟨gb122, 4, none⟩ = some (.int .i64 0) := (blk_cell BK122.out 4).trans rfl; have hcz22_5 : w20.cell? ⟨gb122, 5, none⟩ = some (.int .i64 0) := (blk_cell BK122.out 5).trans rfl; have hcz22_6 : w20.cell? ⟨gb122, 6, none⟩ = some (.slice none 0 0) := (blk_cell BK122.out 6).trans rfl; have hcz22_7 : w20.cell? ⟨gb122, 7, none⟩ = some (.slice none 0 0) := (blk_cell BK122.out 7).trans rfl; have hcz22_8 : w20.cell? ⟨gb122, 8, none⟩ = some (.slice none 0 0) := (blk_cell BK122.out 8).trans rfl; have hfz22_0 := blk_frozen BK122.out 0; have hfz22_1 := blk_frozen BK122.out 1; have hfz22_2 := blk_frozen BK122.out 2; have hfz22_3 := blk_frozen BK122.out 3; have hfz22_4 := blk_frozen BK122.out 4; have hfz22_5 := blk_frozen BK122.out 5; have hfz22_6 := blk_frozen BK122.out 6; have hfz22_7 := blk_frozen BK122.out 7; have hfz22_8 := blk_frozen BK122.out 8))
             go_loopg [5, 8] kj2 (fun kq v5 v8 w' => ∃ (x5_2 : List Int) (x8_2 : Int), v8 = .int .i64 x8_2 ∧ Aside0 (spec_NextBlocks.l0 kq x5_2 x8_2 a0_0 a0_1 l0_2 a0_3 l0_4 ((rd_T66 ((rd_T62 l0_4 a1).f0) (ji16)).f0) ((rd_T66 ((rd_T62 l0_4 a1).f0) (ji16)).f1) ((rd_T66 ((rd_T62 l0_4 a1).f0) (ji16)).f2) ((rd_T66 ((rd_T62 l0_4 a1).f0) (ji16)).f3) ((rd_T66 ((rd_T62 l0_4 a1).f0) (ji16)).f4) ((rd_T66 ((rd_T62 l0_4 a1).f0) (ji16)).f5) ((rd_T66 ((rd_T62 l0_4 a1).f0) (ji16)).f6) ((rd_T66 ((rd_T62 l0_4 a1).f0) (ji16)).f7) ((rd_T66 ((rd_T62 l0_4 a1).f0) (ji16)).f8) = some r) ∧ Aside0 (kq ≤ kj2) ∧ Aside0 (Kd.R (Kd.int .i64) 2 w' w.heap.size (fun _ => True) v5 x5_2) ∧ Aside0 (w'.heap[gb115]? = some (.cells #[.string a0_0, .int .i64 a0_1, (.slice A0_2 l0_2.length c0_2), .int .i64 a0_3, (.slice (some ad120) l0_4.length c0_4)] 30 (0, 0))) ∧ Aside0 (w'.heap[gb122]? = some (.cells #[.int .i64 ((rd_T66 ((rd_T62 l0_4 a1).f0) (ji16)).f0), .int .i64 ((rd_T66 ((rd_T62 l0_4 a1).f0) (ji16)).f1), .int .i64 ((rd_T66 ((rd_T62 l0_4 a1).f0) (ji16)).f2), .int .i64 ((rd_T66 ((rd_T62 l0_4 a1).f0) (ji16)).f3), .int .i64 ((rd_T66 ((rd_T62 l0_4 a1).f0) (ji16)).f4), .int .i64 ((rd_T66 ((rd_T62 l0_4 a1).f0) (ji16)).f5), (.slice A121_6 ((rd_T66 ((rd_T62 l0_4 a1).f0) (ji16)).f6).length c121_6), (.slice A121_7 ((rd_T66 ((rd_T62 l0_4 a1).f0) (ji16)).f7).length c121_7), (.slice A121_8 ((rd_T66 ((rd_T62 l0_4 a1).f0) (ji16)).f8).length c121_8)] 66 (0, 0))) ∧ Aside0 (Below w.heap.size w w'))
             case atStart => exact ⟨(y116), (0), sz_, H', ⟨Nat.le_refl _⟩, ⟨by (with_reducible repeat (first | apply Kd.R_alloc | apply Kd.R_drewN | apply Kd.R_drew)); exact Kd.R_mono (Kd.R_far (p := ⟨gb122, 8, none⟩) (Kd.R_far (p := ⟨gb122, 7, none⟩) (Kd.R_far (p := ⟨gb122, 6, none⟩) (Kd.R_far (p := ⟨gb122, 5, none⟩) (Kd.R_far (p := ⟨gb122, 4, none⟩) (Kd.R_far (p := ⟨gb122, 3, none⟩) (Kd.R_far (p := ⟨gb122, 2, none⟩) (Kd.R_far (p := ⟨gb122, 1, none⟩) (Kd.R_far (p := ⟨gb122, 0, none⟩) (Kd.R_types HO_5.out BK122.out (by decide)) (fun _ hk => hk.2) (.int .i64 ((rd_T66 ((rd_T62 l0_4 a1).f0) (ji16)).f0))) (fun _ hk => hk.2) (.int .i64 ((rd_T66 ((rd_T62 l0_4 a1).f0) (ji16)).f1))) (fun _ hk => hk.2) (.int .i64 ((rd_T66 ((rd_T62 l0_4 a1).f0) (ji16)).f2))) (fun _ hk => hk.2) (.int .i64 ((rd_T66 ((rd_T62 l0_4 a1).f0) (ji16)).f3))) (fun _ hk => hk.2) (.int .i64 ((rd_T66 ((rd_T62 l0_4 a1).f0) (ji16)).f4))) (fun _ hk => hk.2) (.int .i64 ((rd_T66 ((rd_T62 l0_4 a1).f0) (ji16)).f5))) (fun _ hk => hk.2) (.slice A121_6 ((rd_T66 ((rd_T62 l0_4 a1).f0) (ji16)).f6).length c121_6)) (fun _ hk => hk.2) (.slice A121_7 ((rd_T66 ((rd_T62 l0_4 a1).f0) (ji16)).f7).length c121_7)) (fun _ hk => hk.2) (.slice A121_8 ((rd_T66 ((rd_T62 l0_4 a1).f0) (ji16)).f8).length c121_8)) (fun _ hk => trivial)⟩, ⟨by (with_reducible repeat (first | refine blk_drewN ?_ _ | refine blk_drew ?_ | refine blk_alloc ?_ _)); refine blk_far ?_ NB115_122.out _; (with_reducible repeat (first | refine blk_drewN ?_ _ | refine blk_drew ?_ | refine blk_alloc ?_ _)); refine blk_far ?_ NB115_122.out _; (with_reducible repeat (first | refine blk_drewN ?_ _ | refine blk_drew ?_ | refine blk_alloc ?_ _)); refine blk_far ?_ NB115_122.out _; (with_reducible repeat (first | refine blk_drewN ?_ _ | refine blk_drew ?_ | refine blk_alloc ?_ _)); refine blk_far ?_ NB115_122.out _; (with_reducible repeat (first | refine blk_drewN ?_ _ | refine blk_drew ?_ | refine blk_alloc ?_ _)); refine blk_far ?_ NB115_122.out _; (with_reducible repeat (first | refine blk_drewN ?_ _ | refine blk_drew ?_ | refine blk_alloc ?_ _)); refine blk_far ?_ NB115_122.out _; (with_reducible repeat (first | refine blk_drewN ?_ _ | refine blk_drew ?_ | refine blk_alloc ?_ _)); refine blk_far ?_ NB115_122.out _; (with_reducible repeat (first | refine blk_drewN ?_ _ | refine blk_drew ?_ | refine blk_alloc ?_ _)); refine blk_far ?_ NB115_122.out _; (with_reducible repeat (first | refine blk_drewN ?_ _ | refine blk_drew ?_ | refine blk_alloc ?_ _)); refine blk_far ?_ NB115_122.out _; (with_reducible repeat (first | refine blk_drewN ?_ _ | refine blk_drew ?_ | refine blk_alloc ?_ _)); exact BK115.out⟩, ⟨by (with_reducible repeat (first | refine blk_drewN ?_ _ | refine blk_drew ?_ | refine blk_alloc ?_ _)); refine blk_put (cs := #[.int .i64 ((rd_T66 ((rd_T62 l0_4 a1).f0) (ji16)).f0), .int .i64 ((rd_T66 ((rd_T62 l0_4 a1).f0) (ji16)).f1), .int .i64 ((rd_T66 ((rd_T62 l0_4 a1).f0) (ji16)).f2), .int .i64 ((rd_T66 ((rd_T62 l0_4 a1).f0) (ji16)).f3), .int .i64 ((rd_T66 ((rd_T62 l0_4 a1).f0) (ji16)).f4), .int .i64 ((rd_T66 ((rd_T62 l0_4 a1).f0) (ji16)).f5), .slice A121_6 ((rd_T66 ((rd_T62 l0_4 a1).f0) (ji16)).f6).length c121_6, .slice A121_7 ((rd_T66 ((rd_T62 l0_4 a1).f0) (ji16)).f7).length c121_7, .slice none 0 0]) ?_ 8 _ rfl; (with_reducible repeat (first | refine blk_drewN ?_ _ | refine blk_drew ?_ | refine blk_alloc ?_ _)); refine blk_put (cs := #[.int .i64 ((rd_T66 ((rd_T62 l0_4 a1).f0) (ji16)).f0), .int .i64 ((rd_T66 ((rd_T62 l0_4 a1).f0) (ji16)).f1), .int .i64 ((rd_T66 ((rd_T62 l0_4 a1).f0) (ji16)).f2), .int .i64 ((rd_T66 ((rd_T62 l0_4 a1).f0) (ji16)).f3), .int .i64 ((rd_T66 ((rd_T62 l0_4 a1).f0) (ji16)).f4), .int .i64 ((rd_T66 ((rd_T62 l0_4 a1).f0) (ji16)).f5), .slice A121_6 ((rd_T66 ((rd_T62 l0_4 a1).f0) (ji16)).f6).length c121_6, .slice none 0 0, .slice none 0 0]) ?_ 7 _ rfl; (with_reducible repeat (first | refine blk_drewN ?_ _ | refine blk_drew ?_ | refine blk_alloc ?_ _)); refine blk_put (cs := #[.int .i64 ((rd_T66 ((rd_T62 l0_4 a1).f0) (ji16)).f0), .int .i64 ((rd_T66 ((rd_T62 l0_4 a1).f0) (ji16)).f1), .int .i64 ((rd_T66 ((rd_T62 l0_4 a1).f0) (ji16)).f2), .int .i64 ((rd_T66 ((rd_T62 l0_4 a1).f0) (ji16)).f3), .int .i64 ((rd_T66 ((rd_T62 l0_4 a1).f0) (ji16)).f4), .int .i64 ((rd_T66 ((rd_T62 l0_4 a1).f0) (ji16)).f5), .slice none 0 0, .slice none 0 0, .slice none 0 0]) ?_ 6 _ rfl; (with_reducible repeat (first | refine blk_drewN ?_ _ | refine blk_drew ?_ | refine blk_alloc ?_ _)); refine blk_put (cs := #[.int .i64 ((rd_T66 ((rd_T62 l0_4 a1).f0) (ji16)).f0), .int .i64 ((rd_T66 ((rd_T62 l0_4 a1).f0) (ji16)).f1), .int .i64 ((rd_T66 ((rd_T62 l0_4 a1).f0) (ji16)).f2), .int .i64 ((rd_T66 ((rd_T62 l0_4 a1).f0) (ji16)).f3), .int .i64 ((rd_T66 ((rd_T62 l0_4 a1).f0) (ji16)).f4), .int .i64 0, .slice none 0 0, .slice none 0 0, .slice none 0 0]) ?_ 5 _ rfl; (with_reducible repeat (first | refine blk_drewN ?_ _ | refine blk_drew ?_ | refine blk_alloc ?_ _)); refine blk_put (cs := #[.int .i64 ((rd_T66 ((rd_T62 l0_4 a1).f0) (ji16)).f0), .int .i64 ((rd_T66 ((rd_T62 l0_4 a1).f0) (ji16)).f1), .int .i64 ((rd_T66 ((rd_T62 l0_4 a1).f0) (ji16)).f2), .int .i64 ((rd_T66 ((rd_T62 l0_4 a1).f0) (ji16)).f3), .int .i64 0, .int .i64 0, .slice none 0 0, .slice none 0 0, .slice none 0 0]) ?_ 4 _ rfl; (with_reducible repeat (first | refine blk_drewN ?_ _ | refine blk_drew ?_ | refine blk_alloc ?_ _)); refine blk_put (cs := #[.int .i64 ((rd_T66 ((rd_T62 l0_4 a1).f0) (ji16)).f0), .int .i64 ((rd_T66 ((rd_T62 l0_4 a1).f0) (ji16)).f1), .int .i64 ((rd_T66 ((rd_T62 l0_4 a1).f0) (ji16)).f2), .int .i64 0, .int .i64 0, .int .i64 0, .slice none 0 0, .slice none 0 0, .slice none 0 0]) ?_ 3 _ rfl; (with_reducible repeat (first | refine blk_drewN ?_ _ | refine blk_drew ?_ | refine blk_alloc ?_ _)); refine blk_put (cs := #[.int .i64 ((rd_T66 ((rd_T62 l0_4 a1).f0) (ji16)).f0), .int .i64 ((rd_T66 ((rd_T62 l0_4 a1).f0) (ji16)).f1), .int .i64 0, .int .i64 0, .int .i64 0, .int .i64 0, .slice none 0 0, .slice none 0 0, .slice none 0 0]) ?_ 2 _ rfl; (with_reducible repeat (first | refine blk_drewN ?_ _ | refine blk_drew ?_ | refine blk_alloc ?_ _)); refine blk_put (cs := #[.int .i64 ((rd_T66 ((rd_T62 l0_4 a1).f0) (ji16)).f0), .int .i64 0, .int .i64 0, .int .i64 0, .int .i64 0, .int .i64 0, .slice none 0 0, .slice none 0 0, .slice none 0 0]) ?_ 1 _ rfl; (with_reducible repeat (first | refine blk_drewN ?_ _ | refine blk_drew ?_ | refine blk_alloc ?_ _)); refine blk_put (cs := #[.int .i64 0, .int .i64 0, .int .i64 0, .int .i64 0, .int .i64 0, .int .i64 0, .slice none 0 0, .slice none 0 0, .slice none 0 0]) ?_ 0 _ rfl; (with_reducible repeat (first | refine blk_drewN ?_ _ | refine blk_drew ?_ | refine blk_alloc ?_ _)); exact BK122.out⟩, ⟨ bz⟩⟩
             case round =>
              clear H'
              try clear c1
              try clear p1
              try clear q1
              try clear hx1
              try clear c2
              try clear p2
              try clear p6
              try clear c7
              try clear c7b0
              try clear c8
              try clear c8b0
              try clear c10
              try clear c10b0
              try clear c11
              try clear c11b0
              try clear p11
              try clear q11
              try clear hx11
              try clear c12
              try clear p12
              try clear q12
              try clear hx12
              try clear c13
              try clear c14
              try clear c14b0
              try clear c15
              try clear c15b0
              try clear c17
              try clear c17b0
              try clear c18
              try clear c18b0
              try clear c21
              try clear hcz12_0
              try clear hcz12_1
              try clear hcz12_2
              try clear hcz12_3
              try clear hcz12_4
              try clear hcz19_0
              try clear hcz19_1
              try clear hcz19_2
              try clear hcz19_3
              try clear hcz19_4
              try clear hcz22_0
              try clear hcz22_1
              try clear hcz22_2
              try clear hcz22_3
              try clear hcz22_4
              try clear hcz22_5
              try clear hcz22_6
              try clear hcz22_7
              try clear hcz22_8
              try clear hcz9_0
              try clear hcz9_1
              try clear hcz9_2
              try clear hcz9_3
              try clear hcz9_4
              try clear hfz12_0
              try clear hfz12_1
              try clear hfz12_2
              try clear hfz12_3
              try clear hfz12_4
              try clear hfz19_0
              try clear hfz19_1
              try clear hfz19_2
              try clear hfz19_3
              try clear hfz19_4
              try clear hfz22_0
              try clear hfz22_1
              try clear hfz22_2
              try clear hfz22_3
              try clear hfz22_4
              try clear hfz22_5
              try clear hfz22_6
              try clear hfz22_7
              try clear hfz22_8
              try clear hfz9_0
              try clear hfz9_1
              try clear hfz9_2
              try clear hfz9_3
              try clear hfz9_4
              try clear hx119_0
              try clear hx120_0
              try clear hx121_0
              try clear hx121_1
              try clear hx121_2
              try clear hx121_3
              try clear hx121_4
              try clear hx121_5
              try clear hx121_6
              try clear hx121_7
              try clear hx121_8
              try clear p1
              try clear p11
              try clear p119
              try clear p120
              try clear p121
              try clear p2
              try clear q1
              try clear q11
              try clear q119
              try clear q120
              try clear q121
              obtain ⟨x5_2, x8_2, rfl, HA, HK2, HO_5, BK115, BK122, HB⟩ := hrel
              cases gk with
              | zero => exact absurd HA.out (by simp [spec_NextBlocks.l0])
              | succ k2 =>
               have H := HA.out
               clear HA
               simp only [spec_NextBlocks.l0] at H
               by_cases c23 : x8_2 < (((rd_T66 ((rd_T62 l0_4 a1).f0) (ji16)).f7).length : Int)
               · rw [if_pos c23] at H
                 have c23b0 : decide (x8_2 < (((rd_T66 ((rd_T62 l0_4 a1).f0) (ji16)).f7).length : Int)) = true := decide_eq_true c23
                 clear c23
                 by_cases c24 : 0 ≤ x8_2
                 · rw [if_pos c24] at H
                   have c24b0 : decide (0 ≤ x8_2) = true := decide_eq_true c24
                   clear c24
                   by_cases c25 : (rd ((rd_T66 ((rd_T62 l0_4 a1).f0) (ji16)).f7) x8_2) ≥ 0
                   · rw [if_pos c25] at H
                     have c25b0 : decide (0 ≤ (rd ((rd_T66 ((rd_T62 l0_4 a1).f0) (ji16)).f7) x8_2)) = true := decide_eq_true c25
                     clear c25
                     by_cases c26 : (rd ((rd_T66 ((rd_T62 l0_4 a1).f0) (ji16)).f7) x8_2) < (l0_4.length : Int)
                     · rw [if_pos c26] at H
                       have c26b0 : decide ((rd ((rd_T66 ((rd_T62 l0_4 a1).f0) (ji16)).f7) x8_2) < (l0_4.length : Int)) = true := decide_eq_true c26
                       clear c26
                       replace H := Option.bind_eq_some_iff.mp H
                       obtain ⟨t124, A270, H⟩ := H
                       replace H : (if t124 = true then (spec_NextBlocks.l0 k2 x5_2 (wrap64 (x8_2 + 1)) a0_0 a0_1 l0_2 a0_3 l0_4 ((rd_T66 ((rd_T62 l0_4 a1).f0) (ji16)).f0) ((rd_T66 ((rd_T62 l0_4 a1).f0) (ji16)).f1) ((rd_T66 ((rd_T62 l0_4 a1).f0) (ji16)).f2) ((rd_T66 ((rd_T62 l0_4 a1).f0) (ji16)).f3) ((rd_T66 ((rd_T62 l0_4 a1).f0) (ji16)).f4) ((rd_T66 ((rd_T62 l0_4 a1).f0) (ji16)).f5) ((rd_T66 ((rd_T62 l0_4 a1).f0) (ji16)).f6) ((rd_T66 ((rd_T62 l0_4 a1).f0) (ji16)).f7) ((rd_T66 ((rd_T62 l0_4 a1).f0) (ji16)).f8)) else (if x5_2.length < 17592186044416 then (spec_NextBlocks.l0 k2 (x5_2 ++ [rd ((rd_T66 ((rd_T62 l0_4 a1).f0) (ji16)).f7) x8_2]) (wrap64 (x8_2 + 1)) a0_0 a0_1 l0_2 a0_3 l0_4 ((rd_T66 ((rd_T62 l0_4 a1).f0) (ji16)).f0) ((rd_T66 ((rd_T62 l0_4 a1).f0) (ji16)).f1) ((rd_T66 ((rd_T62 l0_4 a1).f0) (ji16)).f2) ((rd_T66 ((rd_T62 l0_4 a1).f0) (ji16)).f3) ((rd_T66 ((rd_T62 l0_4 a1).f0) (ji16)).f4) ((rd_T66 ((rd_T62 l0_4 a1).f0) (ji16)).f5) ((rd_T66 ((rd_T62 l0_4 a1).f0) (ji16)).f6) ((rd_T66 ((rd_T62 l0_4 a1).f0) (ji16)).f7) ((rd_T66 ((rd_T62 l0_4 a1).f0) (ji16)).f8)) else (none))) = some r := H
                       have A27 := Aside0.mk A270
                       clear A270
                       by_cases c28 : t124 = true
                       · subst c28
                         have H1 : (spec_NextBlocks.l0 k2 x5_2 (wrap64 (x8_2 + 1)) a0_0 a0_1 l0_2 a0_3 l0_4 ((rd_T66 ((rd_T62 l0_4 a1).f0) (ji16)).f0) ((rd_T66 ((rd_T62 l0_4 a1).f0) (ji16)).f1) ((rd_T66 ((rd_T62 l0_4 a1).f0) (ji16)).f2) ((rd_T66 ((rd_T62 l0_4 a1).f0) (ji16)).f3) ((rd_T66 ((rd_T62 l0_4 a1).f0) (ji16)).f4) ((rd_T66 ((rd_T62 l0_4 a1).f0) (ji16)).f5) ((rd_T66 ((rd_T62 l0_4 a1).f0) (ji16)).f6) ((rd_T66 ((rd_T62 l0_4 a1).f0) (ji16)).f7) ((rd_T66 ((rd_T62 l0_4 a1).f0) (ji16)).f8)) = some r := by rw [if_pos rfl] at H; exact H
                         clear H
                         have H := H1
                         clear H1
                         have H' := Aside0.mk H
                         clear H
                         have hnb29 := NB122_115.out
                         have hnc29 := NB115_122.out
                         have hcz30_0 : wr.cell? ⟨gb122, 0, none⟩ = some (.int .i64 ((rd_T66 ((rd_T62 l0_4 a1).f0) (ji16)).f0)) := (blk_cell BK122.out 0).trans rfl
                         have hcz30_1 : wr.cell? ⟨gb122, 1, none⟩ = some (.int .i64 ((rd_T66 ((rd_T62 l0_4 a1).f0) (ji16)).f1)) := (blk_cell BK122.out 1).trans rfl
                         have hcz30_2 : wr.cell? ⟨gb122, 2, none⟩ = some (.int .i64 ((rd_T66 ((rd_T62 l0_4 a1).f0) (ji16)).f2)) := (blk_cell BK122.out 2).trans rfl
                         have hcz30_3 : wr.cell? ⟨gb122, 3, none⟩ = some (.int .i64 ((rd_T66 ((rd_T62 l0_4 a1).f0) (ji16)).f3)) := (blk_cell BK122.out 3).trans rfl
                         have hcz30_4 : wr.cell? ⟨gb122, 4, none⟩ = some (.int .i64 ((rd_T66 ((rd_T62 l0_4 a1).f0) (ji16)).f4)) := (blk_cell BK122.out 4).trans rfl
                         have hcz30_5 : wr.cell? ⟨gb122, 5, none⟩ = some (.int .i64 ((rd_T66 ((rd_T62 l0_4 a1).f0) (ji16)).f5)) := (blk_cell BK122.out 5).trans rfl
                         have hcz30_6 : wr.cell? ⟨gb122, 6, none⟩ = some (.slice A121_6 ((rd_T66 ((rd_T62 l0_4 a1).f0) (ji16)).f6).length c121_6) := (blk_cell BK122.out 6).trans rfl
                         have hcz30_7 : wr.cell? ⟨gb122, 7, none⟩ = some (.slice A121_7 ((rd_T66 ((rd_T62 l0_4 a1).f0) (ji16)).f7).length c121_7) := (blk_cell BK122.out 7).trans rfl
                         have hcz30_8 : wr.cell? ⟨gb122, 8, none⟩ = some (.slice A121_8 ((rd_T66 ((rd_T62 l0_4 a1).f0) (ji16)).f8).length c121_8) := (blk_cell BK122.out 8).trans rfl
                         have hfz30_0 := blk_frozen BK122.out 0
                         have hfz30_1 := blk_frozen BK122.out 1
                         have hfz30_2 := blk_frozen BK122.out 2
                         have hfz30_3 := blk_frozen BK122.out 3
                         have hfz30_4 := blk_frozen BK122.out 4
                         have hfz30_5 := blk_frozen BK122.out 5
                         have hfz30_6 := blk_frozen BK122.out 6
                         have hfz30_7 := blk_frozen BK122.out 7
                         have hfz30_8 := blk_frozen BK122.out 8
                         have p123 : 0 ≤ (x8_2 : Int) := of_decide_eq_true az
                         have q123 : x8_2 < (((rd_T66 ((rd_T62 l0_4 a1).f0) (ji16)).f7).length : Int) := of_decide_eq_true az
                         obtain ⟨ad123, e123, hx123_0⟩ := Kd.at_int HR121_7.out x8_2 p123 q123
                         cases e123
                         replace hx123_0 := ck HB hx123_0
                         replace p123 := eq_true p123
                         replace q123 := eq_true q123
                         have hcz31_0 : wr.cell? ⟨gb115, 0, none⟩ = some (.string a0_0) := (blk_cell BK115.out 0).trans rfl
                         have hcz31_1 : wr.cell? ⟨gb115, 1, none⟩ = some (.int .i64 a0_1) := (blk_cell BK115.out 1).trans rfl
                         have hcz31_2 : wr.cell? ⟨gb115, 2, none⟩ = some (.slice A0_2 l0_2.length c0_2) := (blk_cell BK115.out 2).trans rfl
                         have hcz31_3 : wr.cell? ⟨gb115, 3, none⟩ = some (.int .i64 a0_3) := (blk_cell BK115.out 3).trans rfl
                         have hcz31_4 : wr.cell? ⟨gb115, 4, none⟩ = some (.slice (some ad120) l0_4.length c0_4) := (blk_cell BK115.out 4).trans rfl
                         have hfz31_0 := blk_frozen BK115.out 0
                         have hfz31_1 := blk_frozen BK115.out 1
                         have hfz31_2 := blk_frozen BK115.out 2
                         have hfz31_3 := blk_frozen BK115.out 3
                         have hfz31_4 := blk_frozen BK115.out 4
                         obtain ⟨Ao32, co32, eo32⟩ := Kd.R_slice HO_5.out
                         subst eo32
                         go_wp2_with (first | (go_at_call 51; (with_reducible refine (spec_l4Has.calls k2 _ _ x5_2 (rd ((rd_T66 ((rd_T62 l0_4 a1).f0) (ji16)).f7) x8_2) true _ ?side1 ?side2 A27.out).mono ?_); (case side1 => repeat (first | exact (Kd.R_reads' HO_5.out).2.2 | (with_reducible refine Kd.C_alloc ?_ _) | (with_reducible refine Kd.C_drewN ?_ _) | (with_reducible refine Kd.C_drew ?_))); (case side2 => exact (Kd.R_reads' HO_5.out).2.1); rintro e w' ⟨rfl, ⟨nd, rfl⟩⟩))
                         go_roundg k2
                         case measure => have := HJ2.out; have := HK2.out; omega
                         case rel => exact ⟨(x5_2), (wrap64 (x8_2 + 1)), sz_, H', ⟨by have := HJ2.out; have := HK2.out; omega⟩, ⟨by (with_reducible repeat (first | apply Kd.R_alloc | apply Kd.R_drewN | apply Kd.R_drew)); exact HO_5.out⟩, ⟨ kz⟩, ⟨ kz⟩, ⟨ bz⟩⟩
                       · replace c28 := Bool.eq_false_iff.mpr c28
                         subst c28
                         have H1 : (if x5_2.length < 17592186044416 then (spec_NextBlocks.l0 k2 (x5_2 ++ [rd ((rd_T66 ((rd_T62 l0_4 a1).f0) (ji16)).f7) x8_2]) (wrap64 (x8_2 + 1)) a0_0 a0_1 l0_2 a0_3 l0_4 ((rd_T66 ((rd_T62 l0_4 a1).f0) (ji16)).f0) ((rd_T66 ((rd_T62 l0_4 a1).f0) (ji16)).f1) ((rd_T66 ((rd_T62 l0_4 a1).f0) (ji16)).f2) ((rd_T66 ((rd_T62 l0_4 a1).f0) (ji16)).f3) ((rd_T66 ((rd_T62 l0_4 a1).f0) (ji16)).f4) ((rd_T66 ((rd_T62 l0_4 a1).f0) (ji16)).f5) ((rd_T66 ((rd_T62 l0_4 a1).f0) (ji16)).f6) ((rd_T66 ((rd_T62 l0_4 a1).f0) (ji16)).f7) ((rd_T66 ((rd_T62 l0_4 a1).f0) (ji16)).f8)) else (none)) = some r := by rw [if_neg (show ¬ (false = true) by decide)] at H; exact H
                         clear H
                         have H := H1
                         clear H1
                         by_cases c33 : x5_2.length < 17592186044416
                         · rw [if_pos c33] at H
                           have LMc33 := Aside0.mk c33
                           clear c33
                           obtain ⟨y125, hy125⟩ : ∃ y_ : List Int, y_ = (x5_2 ++ [rd ((rd_T66 ((rd_T62 l0_4 a1).f0) (ji16)).f7) x8_2]) := ⟨_, rfl⟩
                           replace H : (spec_NextBlocks.l0 k2 y125 (wrap64 (x8_2 + 1)) a0_0 a0_1 l0_2 a0_3 l0_4 ((rd_T66 ((rd_T62 l0_4 a1).f0) (ji16)).f0) ((rd_T66 ((rd_T62 l0_4 a1).f0) (ji16)).f1) ((rd_T66 ((rd_T62 l0_4 a1).f0) (ji16)).f2) ((rd_T66 ((rd_T62 l0_4 a1).f0) (ji16)).f3) ((rd_T66 ((rd_T62 l0_4 a1).f0) (ji16)).f4) ((rd_T66 ((rd_T62 l0_4 a1).f0) (ji16)).f5) ((rd_T66 ((rd_T62 l0_4 a1).f0) (ji16)).f6) ((rd_T66 ((rd_T62 l0_4 a1).f0) (ji16)).f7) ((rd_T66 ((rd_T62 l0_4 a1).f0) (ji16)).f8)) = some r := by first | (rw [hy125]; with_reducible exact H) | (have H2_ := (Option.bind_some _ _).symm.trans H; rw [hy125]; with_reducible exact H2_) | (have H2_ := (Option.bind_some _ _).symm.trans H; with_reducible exact H2_) | with_reducible exact H | (rw [hy125]; exact H) | exact H
                           have Ny125 := Aside0.mk hy125
                           clear hy125
                           have H' := Aside0.mk H
                           clear H
                           have hnb34 := NB122_115.out
                           have hnc34 := NB115_122.out
                           have hcz35_0 : wr.cell? ⟨gb122, 0, none⟩ = some (.int .i64 ((rd_T66 ((rd_T62 l0_4 a1).f0) (ji16)).f0)) := (blk_cell BK122.out 0).trans rfl
                           have hcz35_1 : wr.cell? ⟨gb122, 1, none⟩ = some (.int .i64 ((rd_T66 ((rd_T62 l0_4 a1).f0) (ji16)).f1)) := (blk_cell BK122.out 1).trans rfl
                           have hcz35_2 : wr.cell? ⟨gb122, 2, none⟩ = some (.int .i64 ((rd_T66 ((rd_T62 l0_4 a1).f0) (ji16)).f2)) := (blk_cell BK122.out 2).trans rfl
                           have hcz35_3 : wr.cell? ⟨gb122, 3, none⟩ = some (.int .i64 ((rd_T66 ((rd_T62 l0_4 a1).f0) (ji16)).f3)) := (blk_cell BK122.out 3).trans rfl
                           have hcz35_4 : wr.cell? ⟨gb122, 4, none⟩ = some (.int .i64 ((rd_T66 ((rd_T62 l0_4 a1).f0) (ji16)).f4)) := (blk_cell BK122.out 4).trans rfl
                           have hcz35_5 : wr.cell? ⟨gb122, 5, none⟩ = some (.int .i64 ((rd_T66 ((rd_T62 l0_4 a1).f0) (ji16)).f5)) := (blk_cell BK122.out 5).trans rfl
                           have hcz35_6 : wr.cell? ⟨gb122, 6, none⟩ = some (.slice A121_6 ((rd_T66 ((rd_T62 l0_4 a1).f0) (ji16)).f6).length c121_6) := (blk_cell BK122.out 6).trans rfl
                           have hcz35_7 : wr.cell? ⟨gb122, 7, none⟩ = some (.slice A121_7 ((rd_T66 ((rd_T62 l0_4 a1).f0) (ji16)).f7).length c121_7) := (blk_cell BK122.out 7).trans rfl
                           have hcz35_8 : wr.cell? ⟨gb122, 8, none⟩ = some (.slice A121_8 ((rd_T66 ((rd_T62 l0_4 a1).f0) (ji16)).f8).length c121_8) := (blk_cell BK122.out 8).trans rfl
                           have hfz35_0 := blk_frozen BK122.out 0
                           have hfz35_1 := blk_frozen BK122.out 1
                           have hfz35_2 := blk_frozen BK122.out 2
                           have hfz35_3 := blk_frozen BK122.out 3
                           have hfz35_4 := blk_frozen BK122.out 4
                           have hfz35_5 := blk_frozen BK122.out 5
                           have hfz35_6 := blk_frozen BK122.out 6
                           have hfz35_7 := blk_frozen BK122.out 7
                           have hfz35_8 := blk_frozen BK122.out 8
                           have p123 : 0 ≤ (x8_2 : Int) := of_decide_eq_true az
                           have q123 : x8_2 < (((rd_T66 ((rd_T62 l0_4 a1).f0) (ji16)).f7).length : Int) := of_decide_eq_true az
                           obtain ⟨ad123, e123, hx123_0⟩ := Kd.at_int HR121_7.out x8_2 p123 q123
                           cases e123
                           replace hx123_0 := ck HB hx123_0
                           replace p123 := eq_true p123
                           replace q123 := eq_true q123
                           have hcz36_0 : wr.cell? ⟨gb115, 0, none⟩ = some (.string a0_0) := (blk_cell BK115.out 0).trans rfl
                           have hcz36_1 : wr.cell? ⟨gb115, 1, none⟩ = some (.int .i64 a0_1) := (blk_cell BK115.out 1).trans rfl
                           have hcz36_2 : wr.cell? ⟨gb115, 2, none⟩ = some (.slice A0_2 l0_2.length c0_2) := (blk_cell BK115.out 2).trans rfl
                           have hcz36_3 : wr.cell? ⟨gb115, 3, none⟩ = some (.int .i64 a0_3) := (blk_cell BK115.out 3).trans rfl
                           have hcz36_4 : wr.cell? ⟨gb115, 4, none⟩ = some (.slice (some ad120) l0_4.length c0_4) := (blk_cell BK115.out 4).trans rfl
                           have hfz36_0 := blk_frozen BK115.out 0
                           have hfz36_1 := blk_frozen BK115.out 1
                           have hfz36_2 := blk_frozen BK115.out 2
                           have hfz36_3 := blk_frozen BK115.out 3
                           have hfz36_4 := blk_frozen BK115.out 4
                           obtain ⟨Ao37, co37, eo37⟩ := Kd.R_slice HO_5.out
                           subst eo37
                           go_wp2_with (first | (go_at_call 51; (with_reducible refine (spec_l4Has.calls k2 _ _ x5_2 (rd ((rd_T66 ((rd_T62 l0_4 a1).f0) (ji16)).f7) x8_2) false _ ?side1 ?side2 A27.out).mono ?_); (case side1 => repeat (first | exact (Kd.R_reads' HO_5.out).2.2 | (with_reducible refine Kd.C_alloc ?_ _) | (with_reducible refine Kd.C_drewN ?_ _) | (with_reducible refine Kd.C_drew ?_))); (case side2 => exact (Kd.R_reads' HO_5.out).2.1); rintro e w' ⟨rfl, ⟨nd, rfl⟩⟩) | ((with_reducible refine gate_builtin (b := .append) (xs := #[.tmp 70, .tmp 72]) rfl ?_); (try (refine gate_guard (by rfl) ?_; dsimp only)); at_builtin; refine Kd.R_append (Kd.int .i64) (w0 := w) w.heap.size rfl (.tmp 70) (.tmp 72) 22 2 (.int .i64 0) 8 rfl Try.underlying22 info2 rfl (by decide) (by omega) (.slice Ao37 x5_2.length co37) x5_2 (rd ((rd_T66 ((rd_T62 l0_4 a1).f0) (ji16)).f7) x8_2) [.int .i64 (rd ((rd_T66 ((rd_T62 l0_4 a1).f0) (ji16)).f7) x8_2)] (fun _ => True) (fun _ => False) rfl rfl ?aP (fun _ hk => hk.elim) ?aF ?aO ?aB ?aS ?aL ?_; (case aP => exact rfl); (case aB => exact bz); (case aF => exact (fun _ _ => trivial)); (case aO => exact (rz HO_5.out)); (case aS => exact (below_size bz)); (case aL => have := LMc33.out; omega); intro v126 w38 ho hb hg hat; rw [← Ny125.out] at ho; have n0_ := Aside0.mk (blk_grown (g := gb115) (o := .cells #[.string a0_0, .int .i64 a0_1, .slice A0_2 l0_2.length c0_2, .int .i64 a0_3, .slice (some ad120) l0_4.length c0_4] 30 (0, 0)) kz hg (Kd.R_ne HO_5.out BK115.out (by decide))); have n1_ := Aside0.mk (blk_grown (g := gb122) (o := .cells #[.int .i64 ((rd_T66 ((rd_T62 l0_4 a1).f0) (ji16)).f0), .int .i64 ((rd_T66 ((rd_T62 l0_4 a1).f0) (ji16)).f1), .int .i64 ((rd_T66 ((rd_T62 l0_4 a1).f0) (ji16)).f2), .int .i64 ((rd_T66 ((rd_T62 l0_4 a1).f0) (ji16)).f3), .int .i64 ((rd_T66 ((rd_T62 l0_4 a1).f0) (ji16)).f4), .int .i64 ((rd_T66 ((rd_T62 l0_4 a1).f0) (ji16)).f5), .slice A121_6 ((rd_T66 ((rd_T62 l0_4 a1).f0) (ji16)).f6).length c121_6, .slice (some ad123) ((rd_T66 ((rd_T62 l0_4 a1).f0) (ji16)).f7).length c121_7, .slice A121_8 ((rd_T66 ((rd_T62 l0_4 a1).f0) (ji16)).f8).length c121_8] 66 (0, 0)) kz hg (Kd.R_ne HO_5.out BK122.out (by decide))); have n2_ := Aside0.mk (hb); have n3_ := Aside0.mk (ho); clear BK115; clear BK122; clear HB; clear HO_5; have BK115 := n0_; have BK122 := n1_; have HB := n2_; have HO127 := n3_; clear n0_ n1_ n2_ n3_; clear ho hb hg hat))
                           go_roundg k2
                           case measure => have := HJ2.out; have := HK2.out; omega
                           case rel => exact ⟨(y125), (wrap64 (x8_2 + 1)), sz_, H', ⟨by have := HJ2.out; have := HK2.out; omega⟩, ⟨by (with_reducible repeat (first | apply Kd.R_alloc | apply Kd.R_drewN | apply Kd.R_drew)); exact HO127.out⟩, ⟨ kz⟩, ⟨ kz⟩, ⟨ bz⟩⟩
                         · rw [if_neg c33] at H
                           exact absurd H (by simp)
                     · rw [if_neg c26] at H
                       have c26b0 : decide ((rd ((rd_T66 ((rd_T62 l0_4 a1).f0) (ji16)).f7) x8_2) < (l0_4.length : Int)) = false := decide_eq_false c26
                       clear c26
                       have H' := Aside0.mk H
                       clear H
                       have hnb39 := NB122_115.out
                       have hnc39 := NB115_122.out
                       have hcz40_0 : wr.cell? ⟨gb122, 0, none⟩ = some (.int .i64 ((rd_T66 ((rd_T62 l0_4 a1).f0) (ji16)).f0)) := (blk_cell BK122.out 0).trans rfl
                       have hcz40_1 : wr.cell? ⟨gb122, 1, none⟩ = some (.int .i64 ((rd_T66 ((rd_T62 l0_4 a1).f0) (ji16)).f1)) := (blk_cell BK122.out 1).trans rfl
                       have hcz40_2 : wr.cell? ⟨gb122, 2, none⟩ = some (.int .i64 ((rd_T66 ((rd_T62 l0_4 a1).f0) (ji16)).f2)) := (blk_cell BK122.out 2).trans rfl
                       have hcz40_3 : wr.cell? ⟨gb122, 3, none⟩ = some (.int .i64 ((rd_T66 ((rd_T62 l0_4 a1).f0) (ji16)).f3)) := (blk_cell BK122.out 3).trans rfl
                       have hcz40_4 : wr.cell? ⟨gb122, 4, none⟩ = some (.int .i64 ((rd_T66 ((rd_T62 l0_4 a1).f0) (ji16)).f4)) := (blk_cell BK122.out 4).trans rfl
                       have hcz40_5 : wr.cell? ⟨gb122, 5, none⟩ = some (.int .i64 ((rd_T66 ((rd_T62 l0_4 a1).f0) (ji16)).f5)) := (blk_cell BK122.out 5).trans rfl
                       have hcz40_6 : wr.cell? ⟨gb122, 6, none⟩ = some (.slice A121_6 ((rd_T66 ((rd_T62 l0_4 a1).f0) (ji16)).f6).length c121_6) := (blk_cell BK122.out 6).trans rfl
                       have hcz40_7 : wr.cell? ⟨gb122, 7, none⟩ = some (.slice A121_7 ((rd_T66 ((rd_T62 l0_4 a1).f0) (ji16)).f7).length c121_7) := (blk_cell BK122.out 7).trans rfl
                       have hcz40_8 : wr.cell? ⟨gb122, 8, none⟩ = some (.slice A121_8 ((rd_T66 ((rd_T62 l0_4 a1).f0) (ji16)).f8).length c121_8) := (blk_cell BK122.out 8).trans rfl
                       have hfz40_0 := blk_frozen BK122.out 0
                       have hfz40_1 := blk_frozen BK122.out 1
                       have hfz40_2 := blk_frozen BK122.out 2
                       have hfz40_3 := blk_frozen BK122.out 3
                       have hfz40_4 := blk_frozen BK122.out 4
                       have hfz40_5 := blk_frozen BK122.out 5
                       have hfz40_6 := blk_frozen BK122.out 6
                       have hfz40_7 := blk_frozen BK122.out 7
                       have hfz40_8 := blk_frozen BK122.out 8
                       have p123 : 0 ≤ (x8_2 : Int) := of_decide_eq_true az
                       have q123 : x8_2 < (((rd_T66 ((rd_T62 l0_4 a1).f0) (ji16)).f7).length : Int) := of_decide_eq_true az
                       obtain ⟨ad123, e123, hx123_0⟩ := Kd.at_int HR121_7.out x8_2 p123 q123
                       cases e123
                       replace hx123_0 := ck HB hx123_0
                       replace p123 := eq_true p123
                       replace q123 := eq_true q123
                       have hcz41_0 : wr.cell? ⟨gb115, 0, none⟩ = some (.string a0_0) := (blk_cell BK115.out 0).trans rfl
                       have hcz41_1 : wr.cell? ⟨gb115, 1, none⟩ = some (.int .i64 a0_1) := (blk_cell BK115.out 1).trans rfl
                       have hcz41_2 : wr.cell? ⟨gb115, 2, none⟩ = some (.slice A0_2 l0_2.length c0_2) := (blk_cell BK115.out 2).trans rfl
                       have hcz41_3 : wr.cell? ⟨gb115, 3, none⟩ = some (.int .i64 a0_3) := (blk_cell BK115.out 3).trans rfl
                       have hcz41_4 : wr.cell? ⟨gb115, 4, none⟩ = some (.slice (some ad120) l0_4.length c0_4) := (blk_cell BK115.out 4).trans rfl
                       have hfz41_0 := blk_frozen BK115.out 0
                       have hfz41_1 := blk_frozen BK115.out 1
                       have hfz41_2 := blk_frozen BK115.out 2
                       have hfz41_3 := blk_frozen BK115.out 3
                       have hfz41_4 := blk_frozen BK115.out 4
                       go_wp2
                       go_roundg k2
                       case measure => have := HJ2.out; have := HK2.out; omega
                       case rel => exact ⟨(x5_2), (wrap64 (x8_2 + 1)), sz_, H', ⟨by have := HJ2.out; have := HK2.out; omega⟩, ⟨by (with_reducible repeat (first | apply Kd.R_alloc | apply Kd.R_drewN | apply Kd.R_drew)); exact HO_5.out⟩, ⟨ kz⟩, ⟨ kz⟩, ⟨ bz⟩⟩
                   · rw [if_neg c25] at H
                     have c25b0 : decide (0 ≤ (rd ((rd_T66 ((rd_T62 l0_4 a1).f0) (ji16)).f7) x8_2)) = false := decide_eq_false c25
                     clear c25
                     have H' := Aside0.mk H
                     clear H
                     have hnb42 := NB122_115.out
                     have hnc42 := NB115_122.out
                     have hcz43_0 : wr.cell? ⟨gb122, 0, none⟩ = some (.int .i64 ((rd_T66 ((rd_T62 l0_4 a1).f0) (ji16)).f0)) := (blk_cell BK122.out 0).trans rfl
                     have hcz43_1 : wr.cell? ⟨gb122, 1, none⟩ = some (.int .i64 ((rd_T66 ((rd_T62 l0_4 a1).f0) (ji16)).f1)) := (blk_cell BK122.out 1).trans rfl
                     have hcz43_2 : wr.cell? ⟨gb122, 2, none⟩ = some (.int .i64 ((rd_T66 ((rd_T62 l0_4 a1).f0) (ji16)).f2)) := (blk_cell BK122.out 2).trans rfl
                     have hcz43_3 : wr.cell? ⟨gb122, 3, none⟩ = some (.int .i64 ((rd_T66 ((rd_T62 l0_4 a1).f0) (ji16)).f3)) := (blk_cell BK122.out 3).trans rfl
                     have hcz43_4 : wr.cell? ⟨gb122, 4, none⟩ = some (.int .i64 ((rd_T66 ((rd_T62 l0_4 a1).f0) (ji16)).f4)) := (blk_cell BK122.out 4).trans rfl
                     have hcz43_5 : wr.cell? ⟨gb122, 5, none⟩ = some (.int .i64 ((rd_T66 ((rd_T62 l0_4 a1).f0) (ji16)).f5)) := (blk_cell BK122.out 5).trans rfl
                     have hcz43_6 : wr.cell? ⟨gb122, 6, none⟩ = some (.slice A121_6 ((rd_T66 ((rd_T62 l0_4 a1).f0) (ji16)).f6).length c121_6) := (blk_cell BK122.out 6).trans rfl
                     have hcz43_7 : wr.cell? ⟨gb122, 7, none⟩ = some (.slice A121_7 ((rd_T66 ((rd_T62 l0_4 a1).f0) (ji16)).f7).length c121_7) := (blk_cell BK122.out 7).trans rfl
                     have hcz43_8 : wr.cell? ⟨gb122, 8, none⟩ = some (.slice A121_8 ((rd_T66 ((rd_T62 l0_4 a1).f0) (ji16)).f8).length c121_8) := (blk_cell BK122.out 8).trans rfl
                     have hfz43_0 := blk_frozen BK122.out 0
                     have hfz43_1 := blk_frozen BK122.out 1
                     have hfz43_2 := blk_frozen BK122.out 2
                     have hfz43_3 := blk_frozen BK122.out 3
                     have hfz43_4 := blk_frozen BK122.out 4
                     have hfz43_5 := blk_frozen BK122.out 5
                     have hfz43_6 := blk_frozen BK122.out 6
                     have hfz43_7 := blk_frozen BK122.out 7
                     have hfz43_8 := blk_frozen BK122.out 8
                     have p123 : 0 ≤ (x8_2 : Int) := of_decide_eq_true az
                     have q123 : x8_2 < (((rd_T66 ((rd_T62 l0_4 a1).f0) (ji16)).f7).length : Int) := of_decide_eq_true az
                     obtain ⟨ad123, e123, hx123_0⟩ := Kd.at_int HR121_7.out x8_2 p123 q123
                     cases e123
                     replace hx123_0 := ck HB hx123_0
                     replace p123 := eq_true p123
                     replace q123 := eq_true q123
                     go_wp2
                     go_roundg k2
                     case measure => have := HJ2.out; have := HK2.out; omega
                     case rel => exact ⟨(x5_2), (wrap64 (x8_2 + 1)), sz_, H', ⟨by have := HJ2.out; have := HK2.out; omega⟩, ⟨by (with_reducible repeat (first | apply Kd.R_alloc | apply Kd.R_drewN | apply Kd.R_drew)); exact HO_5.out⟩, ⟨ kz⟩, ⟨ kz⟩, ⟨ bz⟩⟩
                 · rw [if_neg c24] at H
                   exact absurd H (by simp)
               · rw [if_neg c23] at H
                 have c23b0 : decide (x8_2 < (((rd_T66 ((rd_T62 l0_4 a1).f0) (ji16)).f7).length : Int)) = false := decide_eq_false c23
                 clear c23
                 obtain rfl := Option.some.inj H
                 have hnb44 := NB122_115.out
                 have hnc44 := NB115_122.out
                 have hcz45_0 : wr.cell? ⟨gb122, 0, none⟩ = some (.int .i64 ((rd_T66 ((rd_T62 l0_4 a1).f0) (ji16)).f0)) := (blk_cell BK122.out 0).trans rfl
                 have hcz45_1 : wr.cell? ⟨gb122, 1, none⟩ = some (.int .i64 ((rd_T66 ((rd_T62 l0_4 a1).f0) (ji16)).f1)) := (blk_cell BK122.out 1).trans rfl
                 have hcz45_2 : wr.cell? ⟨gb122, 2, none⟩ = some (.int .i64 ((rd_T66 ((rd_T62 l0_4 a1).f0) (ji16)).f2)) := (blk_cell BK122.out 2).trans rfl
                 have hcz45_3 : wr.cell? ⟨gb122, 3, none⟩ = some (.int .i64 ((rd_T66 ((rd_T62 l0_4 a1).f0) (ji16)).f3)) := (blk_cell BK122.out 3).trans rfl
                 have hcz45_4 : wr.cell? ⟨gb122, 4, none⟩ = some (.int .i64 ((rd_T66 ((rd_T62 l0_4 a1).f0) (ji16)).f4)) := (blk_cell BK122.out 4).trans rfl
                 have hcz45_5 : wr.cell? ⟨gb122, 5, none⟩ = some (.int .i64 ((rd_T66 ((rd_T62 l0_4 a1).f0) (ji16)).f5)) := (blk_cell BK122.out 5).trans rfl
                 have hcz45_6 : wr.cell? ⟨gb122, 6, none⟩ = some (.slice A121_6 ((rd_T66 ((rd_T62 l0_4 a1).f0) (ji16)).f6).length c121_6) := (blk_cell BK122.out 6).trans rfl
                 have hcz45_7 : wr.cell? ⟨gb122, 7, none⟩ = some (.slice A121_7 ((rd_T66 ((rd_T62 l0_4 a1).f0) (ji16)).f7).length c121_7) := (blk_cell BK122.out 7).trans rfl
                 have hcz45_8 : wr.cell? ⟨gb122, 8, none⟩ = some (.slice A121_8 ((rd_T66 ((rd_T62 l0_4 a1).f0) (ji16)).f8).length c121_8) := (blk_cell BK122.out 8).trans rfl
                 have hfz45_0 := blk_frozen BK122.out 0
                 have hfz45_1 := blk_frozen BK122.out 1
                 have hfz45_2 := blk_frozen BK122.out 2
                 have hfz45_3 := blk_frozen BK122.out 3
                 have hfz45_4 := blk_frozen BK122.out 4
                 have hfz45_5 := blk_frozen BK122.out 5
                 have hfz45_6 := blk_frozen BK122.out 6
                 have hfz45_7 := blk_frozen BK122.out 7
                 have hfz45_8 := blk_frozen BK122.out 8
                 go_wp2
                 go_ret
                 exact ⟨_, by first | rfl | (simp [errW_none, errW_some] <;> rfl) | (simp only [← hji16]; first | rfl | (simp [errW_none, errW_some] <;> rfl)) | (simp [*, errW_none, errW_some] <;> rfl), by (with_reducible repeat (first | apply Kd.R_alloc | apply Kd.R_drewN | apply Kd.R_drew)); exact HO_5.out, bz⟩
           · rw [if_neg c18] at H
             exact absurd H (by simp)
         · rw [if_neg c17] at H
           exact absurd H (by simp)
       · rw [if_neg c15] at H
         exact absurd H (by simp)
     · rw [if_neg c14] at H
       exact absurd H (by simp)

end Go.Proofs.Ytoedcnhgobbnfaa.All

/- A graph's rows of rows: where each block goes and whence it is come to, worked out once. -/
namespace Go.Proofs.Ytoedcnhgobbnfaa.All
open Go.RowKit Go.Proofs.YtoedcnhgobbnfaaW.PrintWords Go.Proofs.YtoedcnhgobbnfaaW.PrintLast Go.Proofs.YtoedcnhgobbnfaaW.PrintMore
set_option linter.unusedVariables false
set_option linter.unusedSimpArgs false
/-- b is put behind the rows that ts names. -/
def pushB (prev : List (List Int)) (b : Int) (ts : List Int) : List (List Int) := ts.foldl (fun p t => p.set t.toNat (p.getD t.toNat [] ++ [b])) prev
def prevUp (rows : List (List Int)) : Nat → List (List Int)
  | 0 => List.replicate rows.length []
  | m + 1 => pushB (prevUp rows m) (m : Int) (rows.getD m [])
def rowsOf (F : Int → Option (List Int)) : Nat → Option (List (List Int))
  | 0 => some []
  | m + 1 => (rowsOf F m).bind fun rs => (F (m : Int)).bind fun r => some (rs ++ [r])
def okRows (n : Nat) (rs : List (List Int)) : Bool := rs.all (fun r => decide (r.length ≤ 2000000) && r.all (fun t => decide (0 ≤ t ∧ t < (n : Int))))
theorem rowsOf_at {F : Int → Option (List Int)} : ∀ {n : Nat} {rs : List (List Int)}, rowsOf F n = some rs → ∀ m, m < n → ∃ N t, rowsOf F m = some N ∧ F (m : Int) = some t ∧ rowsOf F (m + 1) = some (N ++ [t])
  | 0, _, _, m, hm => absurd hm (Nat.not_lt_zero _)
  | n + 1, rs, h, m, hm => by
    have h' := h
    simp only [rowsOf] at h
    obtain ⟨N, h1, h2⟩ := Option.bind_eq_some_iff.mp h
    obtain ⟨t, h3, h4⟩ := Option.bind_eq_some_iff.mp h2
    by_cases e : m = n
    · subst e
      injection h4 with h4
      exact ⟨N, t, h1, h3, by rw [h', h4]⟩
    · exact rowsOf_at h1 m (by omega)
theorem rowsOf_len {F : Int → Option (List Int)} : ∀ {n : Nat} {rs : List (List Int)}, rowsOf F n = some rs → rs.length = n
  | 0, _, h => by simp only [rowsOf, Option.some.injEq] at h; subst h; rfl
  | n + 1, rs, h => by
    simp only [rowsOf] at h
    obtain ⟨N, h1, h2⟩ := Option.bind_eq_some_iff.mp h
    obtain ⟨t, h3, h4⟩ := Option.bind_eq_some_iff.mp h2
    injection h4 with h4
    subst h4
    rw [List.length_append, rowsOf_len h1]
    rfl
theorem pushB_len : ∀ (ts : List Int) (prev : List (List Int)) (b : Int), (pushB prev b ts).length = prev.length
  | [], _, _ => rfl
  | t :: ts, prev, b => by
    have h := pushB_len ts (prev.set t.toNat (prev.getD t.toNat [] ++ [b])) b
    rw [List.length_set] at h
    exact h
theorem pushB_snoc (prev : List (List Int)) (b : Int) (ts : List Int) (t : Int) : pushB prev b (ts ++ [t]) = (pushB prev b ts).set t.toNat ((pushB prev b ts).getD t.toNat [] ++ [b]) := by
  unfold pushB
  rw [List.foldl_append]
  rfl
theorem prevUp_len (rows : List (List Int)) : ∀ m, (prevUp rows m).length = rows.length
  | 0 => by simp [prevUp]
  | m + 1 => by rw [prevUp, pushB_len, prevUp_len rows m]
theorem pushB_row (b : Int) (i : Nat) : ∀ (ts : List Int) (prev : List (List Int)), ((pushB prev b ts).getD i []).length ≤ (prev.getD i []).length + ts.length
  | [], prev => by simp [pushB]
  | t :: ts, prev => by
    have h := pushB_row b i ts (prev.set t.toNat (prev.getD t.toNat [] ++ [b]))
    have h2 : ((prev.set t.toNat (prev.getD t.toNat [] ++ [b])).getD i []).length ≤ (prev.getD i []).length + 1 := by
      simp only [List.getD_eq_getElem?_getD, List.getElem?_set]
      split
      · split
        · rename_i e _; subst e; simp
        · simp
      · omega
    have h3 : pushB prev b (t :: ts) = pushB (prev.set t.toNat (prev.getD t.toNat [] ++ [b])) b ts := rfl
    rw [h3, List.length_cons]
    omega
theorem okRows_at {n : Nat} {rs : List (List Int)} (h : okRows n rs = true) (m : Nat) (hm : m < rs.length) : (rs.getD m []).length ≤ 2000000 ∧ ∀ t ∈ rs.getD m [], 0 ≤ t ∧ t < (n : Int) := by
  unfold okRows at h
  rw [List.all_eq_true] at h
  have h2 := h _ (List.getElem_mem hm)
  rw [Bool.and_eq_true, decide_eq_true_eq, List.all_eq_true] at h2
  rw [List.getD_eq_getElem?_getD, List.getElem?_eq_getElem hm, Option.getD_some]
  exact ⟨h2.1, fun t ht => by simpa using h2.2 t ht⟩
theorem prevUp_row {n : Nat} {rs : List (List Int)} (h : okRows n rs = true) (i : Nat) : ∀ m, m ≤ rs.length → ((prevUp rs m).getD i []).length ≤ m * 2000000
  | 0, _ => by
    simp only [prevUp, List.getD_eq_getElem?_getD, List.getElem?_replicate]
    split <;> simp
  | m + 1, hm => by
    have h1 := prevUp_row h i m (by omega)
    have h2 := pushB_row (m : Int) i (rs.getD m []) (prevUp rs m)
    have h3 := (okRows_at h m (by omega)).1
    rw [prevUp]
    omega
/-- An inner row of a row of rows is appended to, and what came of it is stored in its place. -/
theorem S_push {e e2 : Nat} {W : World} {base g n cap : Nat} {ok : Nat → Prop} {xs : List (List Int)} {vi : Value} (h : Kd.S (Kd.slice e2 (Kd.int .i64)) e W base ok (.slice (some ⟨g, 0, none⟩) n cap) xs) (i : Int) (h0 : 0 ≤ i) (h1 : i < n) (hv : W.cell? ⟨g, i.toNat, none⟩ = some vi) :
    ∃ oki : Nat → Prop, (Kd.int .i64).R e2 W base oki vi (xs.getD i.toNat []) ∧ (∀ k, oki k → ok k ∧ k ≠ g) ∧
      ∀ (W1 : World) (v1 : Value) (x' : List Int), W.grownBy W1 vi.ownBlock → (Kd.int .i64).R e2 W1 base (fun k => oki k ∨ ok k ∧ W.heap.size ≤ k) v1 x' → Kd.S (Kd.slice e2 (Kd.int .i64)) e (W1.setCell ⟨g, i.toNat, none⟩ v1) base ok (.slice (some ⟨g, 0, none⟩) n cap) (xs.set i.toNat x') := by
  obtain ⟨oki, c, hcl, hM, hcc, _, hoki, hH⟩ := Kd.S_elem h [] i h0 h1
  obtain ⟨u, rfl, hR⟩ := hM
  have hs : (Kd.slice e2 (Kd.int .i64)).sz = 1 := rfl
  have hu := hcc 0 u rfl
  rw [hs, Nat.mul_one, Nat.add_zero] at hu
  have he : u = vi := Option.some.inj (hu.symm.trans hv)
  subst he
  refine ⟨oki, hR, hoki, fun W1 v1 x' hg hR1 => ?_⟩
  have hrow : ∀ k, u.ownBlock = some k → oki k ∨ ok k ∧ W.heap.size ≤ k := fun k hk => .inl (hR.1 k hk)
  have hH2 := Kd.H_grown (Kd.H_widen hH) hg hrow
  have hone : ∀ q ∈ [v1], q.oneCell' = true := by
    intro q hq
    rw [List.mem_singleton] at hq
    subst hq
    exact (Kd.R_val hR1).2
  obtain ⟨h3, h4⟩ := Kd.H_seg hH2 h0 h1 (seg := [v1]) (j := 0) (by simp [hs]) hone
  rw [hs, Nat.mul_one, Nat.add_zero] at h3 h4
  have hset : W1.setCells g i.toNat [v1] = W1.setCell ⟨g, i.toNat, none⟩ v1 := by simp [World.setCells]
  rw [hset] at h3 h4
  refine Kd.H_back h3 (okp := fun k => oki k ∨ ok k ∧ W.heap.size ≤ k) (Kd.M_row ?_) (fun _ hk => hk)
  exact Kd.R_step hR1 (fun k hk _ => h4.block k (by omega) (fun e => by
    have hkg : k ≠ g := by
      rcases hk with hk | hk
      · exact (hoki k hk).2
      · have hgl := Kd.S_lt h g (by simp [Value.ownBlock])
        omega
    injection e with e
    exact hkg e))
theorem cell_al {w : World} {a : Addr} {v : Value} (h : w.cell? a = some v) (o : Obj) : (w.alloc o).cell? a = some v := ((below_alloc (Below.refl w.heap.size w) o).cell (World.block_lt_of_cell? w a h)).trans h
theorem frozen_gr {W w1 : World} {row : Option Nat} (hg : W.grownBy w1 row) {a : Addr} {v : Value} (hc : W.cell? a = some v) (h : W.frozen? a = false) (hne : some a.block ≠ row) : w1.frozen? a = false := by
  have := hg.block a.block (World.block_lt_of_cell? W a hc) hne
  simpa [World.frozen?, this] using h
theorem rd_take {xs : List Int} {j : Nat} (h : j < xs.length) : rd xs (j : Int) ∈ xs ∧ xs.take (j + 1) = xs.take j ++ [rd xs (j : Int)] := by
  have hr : rd xs (j : Int) = xs[j] := by simp [rd, List.getElem?_eq_getElem h]
  rw [hr]
  exact ⟨List.getElem_mem h, List.take_succ_eq_append_getElem h⟩
end Go.Proofs.Ytoedcnhgobbnfaa.All

namespace Go.Proofs.Ytoedcnhgobbnfaa.All
open Go.RowKit Go.Proofs.YtoedcnhgobbnfaaW.PrintWords Go.Proofs.YtoedcnhgobbnfaaW.PrintLast Go.Proofs.YtoedcnhgobbnfaaW.PrintMore
attribute [local go_sem] max2_int min2_int max_two min_two max_three min_three max_four min_four   -- for this text's walks alone
set_option linter.unusedVariables false
set_option linter.unusedSimpArgs false

def spec_l4Build.f (k : Nat) (a0_0 : ByteArray) (a0_1 : Int) (l0_2 : List Int) (a0_3 : Int) (l0_4 : List (S62)) : Option (List (List Int) × List (List Int)) :=
 if l0_4.length ≤ 2000000 then (rowsOf (fun b => spec_NextBlocks.f k a0_0 a0_1 l0_2 a0_3 l0_4 b) l0_4.length).bind fun rs => if okRows l0_4.length rs = true then some (rs, prevUp rs l0_4.length) else none else none
theorem spec_l4Build.open {k : Nat} {a0_0 : ByteArray} {a0_1 : Int} {l0_2 : List Int} {a0_3 : Int} {l0_4 : List (S62)} {r0 r1 : List (List Int)} (h : spec_l4Build.f k a0_0 a0_1 l0_2 a0_3 l0_4 = some (r0, r1)) :
 l0_4.length ≤ 2000000 ∧ rowsOf (fun b => spec_NextBlocks.f k a0_0 a0_1 l0_2 a0_3 l0_4 b) l0_4.length = some r0 ∧ okRows l0_4.length r0 = true ∧ r1 = prevUp r0 l0_4.length := by
 unfold spec_l4Build.f at h
 split at h
 · rename_i hl
   obtain ⟨rs, h1, h2⟩ := Option.bind_eq_some_iff.mp h
   split at h2
   · rename_i ho
     injection h2 with h2
     injection h2 with h3 h4
     subst h3
     exact ⟨hl, h1, ho, h4.symm⟩
   · cases h2
 · cases h
set_option maxHeartbeats 8000000 in
set_option maxRecDepth 100000 in
theorem spec_l4Build.calls (k : Nat) (a0_0 : ByteArray) (a0_1 : Int) (A0_2 : Option Addr) (c0_2 : Nat) (l0_2 : List Int) (a0_3 : Int) (A0_4 : Option Addr) (c0_4 : Nat) (l0_4 : List (S62)) (r0 r1 : List (List Int)) (w : World) (hr0_2 : Kd.C (Kd.int .i64) w A0_2 l0_2.length l0_2) (hc0_2 : l0_2.length ≤ c0_2) (hr0_4 : Kd.C k62 w A0_4 l0_4.length l0_4) (hc0_4 : l0_4.length ≤ c0_4) (h : spec_l4Build.f k a0_0 a0_1 l0_2 a0_3 l0_4 = some (r0, r1)) :
 Calls Try.prog 45 #[.agg #[.string a0_0, .int .i64 a0_1, .slice A0_2 l0_2.length c0_2, .int .i64 a0_3, .slice A0_4 l0_4.length c0_4]] w fun e w' => ∃ v0_ v1_ : Value, e = .returned (.agg #[v0_, v1_]) ∧ Kd.S (Kd.slice 2 (Kd.int .i64)) 22 w' w.heap.size (fun k_ => some k_ ≠ (v1_ : Value).ownBlock) v0_ r0 ∧ Kd.S (Kd.slice 2 (Kd.int .i64)) 22 w' w.heap.size (fun k_ => some k_ ≠ (v0_ : Value).ownBlock) v1_ r1 ∧ Below w.heap.size w w' := by
 have hu := Try.underlying30
 have hug := Try.underlying52
 obtain ⟨hl, hrows, hok, hr1⟩ := spec_l4Build.open h
 clear h
 subst hr1
 have hlen := rowsOf_len hrows
 have HR2 := Aside0.mk hr0_2
 have HC2 := Aside0.mk hc0_2
 have HR4 := Aside0.mk hr0_4
 have HC4 := Aside0.mk hc0_4
 clear hr0_2 hc0_2 hr0_4 hc0_4
 have HB := Aside0.mk (Below.refl w.heap.size w)
 have HRW := Aside0.mk hrows
 have HOK := Aside0.mk hok
 clear hrows hok
 go_enter Try.func45, Try.ntmps45
 go_wp2_with (first | ((with_reducible refine gate_dst (N := 1) rfl ?_); refine box_event ?hg (N := 1) ?hd (cs := #[.string a0_0, .int .i64 a0_1, .slice A0_2 l0_2.length c0_2, .int .i64 a0_3, .slice A0_4 l0_4.length c0_4]) (t := 30) ?hr ?_; (case hd => rfl); (case hg => rfl); (case hr => first | (go_simp; done) | (go_simp; rfl)); intro g1 hg w1 hbox hb; have n0_ := Aside0.mk (below_step HB.out hb); have GB1 := Aside0.mk (show w.heap.size ≤ g1 from by rw [hg]; exact below_size HB.out); have B1 := Aside0.mk hbox; clear HB; have HB := n0_; clear n0_ hb hbox hg) | ((with_reducible refine gate_dst (N := 2) rfl ?_); refine box_event ?hg (N := 2) ?hd (cs := #[.slice none 0 0, .slice none 0 0]) (t := 52) ?hr ?_; (case hd => rfl); (case hg => rfl); (case hr => first | (go_simp; done) | (go_simp; rfl)); intro g2 hg w2 hbox hb; have m0_ := Aside0.mk (blk_below B1.out hb); have N12 := Aside0.mk (show g1 ≠ g2 from by rw [hg]; exact Nat.ne_of_lt (blk_lt B1.out)); have n0_ := Aside0.mk (below_step HB.out hb); have GB2 := Aside0.mk (show w.heap.size ≤ g2 from by rw [hg]; exact below_size HB.out); have B2 := Aside0.mk hbox; clear HB B1; have HB := n0_; have B1 := m0_; clear n0_ hb hbox hg m0_) | ((with_reducible refine gate_dst (N := 3) rfl ?_); refine box_event ?hg (N := 3) ?hd (cs := #[.slice none 0 0, .slice none 0 0]) (t := 52) ?hr ?_; (case hd => rfl); (case hg => rfl); (case hr => first | (go_simp; done) | (go_simp; rfl)); intro g3 hg w3 hbox hb; have m0_ := Aside0.mk (blk_below B1.out hb); have m1_ := Aside0.mk (blk_below B2.out hb); have N13 := Aside0.mk (show g1 ≠ g3 from by rw [hg]; exact Nat.ne_of_lt (blk_lt B1.out)); have N23 := Aside0.mk (show g2 ≠ g3 from by rw [hg]; exact Nat.ne_of_lt (blk_lt B2.out)); have n0_ := Aside0.mk (below_step HB.out hb); have GB3 := Aside0.mk (show w.heap.size ≤ g3 from by rw [hg]; exact below_size HB.out); have B3 := Aside0.mk hbox; clear HB B1 B2; have HB := n0_; have B1 := m0_; have B2 := m1_; clear n0_ hb hbox hg m0_ m1_; have hcz_B3_0 : w3.cell? ⟨g3, 0, none⟩ = some (.slice none 0 0) := (blk_cell B3.out 0).trans rfl; have hcz_B3_1 : w3.cell? ⟨g3, 1, none⟩ = some (.slice none 0 0) := (blk_cell B3.out 1).trans rfl; have hfz_B3_0 := blk_frozen B3.out 0; have hfz_B3_1 := blk_frozen B3.out 1))
 go_loopw [4] (fun v4 w' => ∃ (m : Nat) (vN vP : Value) (N : List (List Int)) (Pn Pp : Nat → Prop), v4 = .int .i64 (m : Int) ∧ m ≤ l0_4.length ∧ Aside0 (rowsOf (fun b => spec_NextBlocks.f k a0_0 a0_1 l0_2 a0_3 l0_4 b) m = some N) ∧ Aside0 (∀ k_ : Nat, Pn k_ → ¬ Pp k_) ∧ Aside0 (Kd.S (Kd.slice 2 (Kd.int .i64)) 22 w' w.heap.size Pn vN N) ∧ Aside0 (Kd.S (Kd.slice 2 (Kd.int .i64)) 22 w' w.heap.size Pp vP (List.replicate m [])) ∧ Aside0 (w'.heap[g1]? = some (.cells #[.string a0_0, .int .i64 a0_1, .slice A0_2 l0_2.length c0_2, .int .i64 a0_3, .slice A0_4 l0_4.length c0_4] 30 (0, 0))) ∧ Aside0 (w'.heap[g2]? = some (.cells #[.slice none 0 0, .slice none 0 0] 52 (0, 0))) ∧ Aside0 (w'.heap[g3]? = some (.cells #[vN, vP] 52 (0, 0))) ∧ Aside0 (Below w.heap.size w w')) (fun v4 _ => l0_4.length - (intOf v4).toNat)
 case atStart => exact ⟨0, .slice none 0 0, .slice none 0 0, [], fun _ => False, fun _ => False, rfl, Nat.zero_le _, ⟨rfl⟩, ⟨fun _ h _ => h⟩, ⟨Kd.S_nil _ _ _ _ _⟩, ⟨Kd.S_nil _ _ _ _ _⟩, ⟨blk_far (blk_far B1.out N13.out _) N13.out _⟩, ⟨blk_far (blk_far B2.out N23.out _) N23.out _⟩, ⟨blk_put (cs := #[.slice none 0 0, .slice none 0 0]) (blk_put (cs := #[.slice none 0 0, .slice none 0 0]) B3.out 0 (.slice none 0 0) rfl) 1 (.slice none 0 0) rfl⟩, ⟨below_set (below_set HB.out GB3.out) GB3.out⟩⟩
 case round =>
  clear hcz_B3_0 hcz_B3_1 hfz_B3_0 hfz_B3_1 B1 B2 B3 HB
  obtain ⟨m, vN, vP, N, Pn, Pp, rfl, hm, HM, HD, HN, HP, B1, B2, B3, HB⟩ := hrel
  by_cases hlt : m < l0_4.length
  · obtain ⟨N', t, hN', ht, hN1⟩ := rowsOf_at HRW.out m hlt
    obtain rfl := Option.some.inj (HM.out.symm.trans hN')
    have HT := Aside0.mk ht
    have HM1 := Aside0.mk hN1
    have HL := Aside0.mk (rowsOf_len HM.out)
    clear hN' ht hN1
    have c1 : decide ((m : Int) < (l0_4.length : Int)) = true := decide_eq_true (by omega)
    have hcz_B1_0 : wr.cell? ⟨g1, 0, none⟩ = some (.string a0_0) := (blk_cell B1.out 0).trans rfl
    have hfz_B1_0 := blk_frozen B1.out 0
    have hcz_B1_1 : wr.cell? ⟨g1, 1, none⟩ = some (.int .i64 a0_1) := (blk_cell B1.out 1).trans rfl
    have hfz_B1_1 := blk_frozen B1.out 1
    have hcz_B1_2 : wr.cell? ⟨g1, 2, none⟩ = some (.slice A0_2 l0_2.length c0_2) := (blk_cell B1.out 2).trans rfl
    have hfz_B1_2 := blk_frozen B1.out 2
    have hcz_B1_3 : wr.cell? ⟨g1, 3, none⟩ = some (.int .i64 a0_3) := (blk_cell B1.out 3).trans rfl
    have hfz_B1_3 := blk_frozen B1.out 3
    have hcz_B1_4 : wr.cell? ⟨g1, 4, none⟩ = some (.slice A0_4 l0_4.length c0_4) := (blk_cell B1.out 4).trans rfl
    have hfz_B1_4 := blk_frozen B1.out 4
    go_upto_region 5 with (fail)
    clear hcz_B1_0 hfz_B1_0 hcz_B1_1 hfz_B1_1 hcz_B1_2 hfz_B1_2 hcz_B1_3 hfz_B1_3 hcz_B1_4 hfz_B1_4
    refine start_ (n := 9) (S := fun w' => w'.cell? ⟨g3, 0, none⟩ = some vN ∧ w'.cell? ⟨g1, 0, none⟩ = some (.string a0_0) ∧ w'.cell? ⟨g1, 1, none⟩ = some (.int .i64 a0_1) ∧ w'.cell? ⟨g1, 2, none⟩ = some (.slice A0_2 l0_2.length c0_2) ∧ w'.cell? ⟨g1, 3, none⟩ = some (.int .i64 a0_3) ∧ w'.cell? ⟨g1, 4, none⟩ = some (.slice A0_4 l0_4.length c0_4)) (ds := [8]) #[false, false, false, false, false, false, false, false, false] (by kernel_rfl) rfl rfl ⟨(blk_cell B3.out 0).trans rfl, (blk_cell B1.out 0).trans rfl, (blk_cell B1.out 1).trans rfl, (blk_cell B1.out 2).trans rfl, (blk_cell B1.out 3).trans rfl, (blk_cell B1.out 4).trans rfl⟩ (fun hHeld => ?_)
    have HWA := Aside0.mk (show w.heap.size ≤ wr.drew.heap.size from below_size (below_drew HB.out))
    have n0_ := Aside0.mk (Kd.S_drew HN.out)
    have n1_ := Aside0.mk (Kd.S_drew HP.out)
    have n2_ := Aside0.mk (blk_drew B1.out)
    have n3_ := Aside0.mk (blk_drew B2.out)
    have n4_ := Aside0.mk (blk_drew B3.out)
    have n5_ := Aside0.mk (below_drew HB.out)
    clear HN HP B1 B2 B3 HB
    have HN := n0_
    have HP := n1_
    have B1 := n2_
    have B2 := n3_
    have B3 := n4_
    have HB := n5_
    clear n0_ n1_ n2_ n3_ n4_ n5_
    generalize wr.drew = wA at HWA HN HP B1 B2 B3 HB hHeld ⊢
    refine pure_ (i := 0) (N := some 15) (v := ?_) (a' := ?_) #[true, false, false, false, false, false, false, false, false] rfl rfl (by kernel_rfl) (fun _ _ _ h => h) (Or.inl ⟨by rfl, ?_⟩) ?_ ?_
    rotate_left
    · intro w'
      go_simp
      with_reducible rfl
    rotate_left
    · simp only [Act.put, sx1, sx2, sx3, i64_w, i32_w]
      rfl
    refine pure_ (i := 3) (N := some 18) (v := ?_) (a' := ?_) #[true, false, false, true, false, false, false, false, false] rfl rfl (by kernel_rfl) (fun _ _ _ h => h) (Or.inl ⟨by rfl, ?_⟩) ?_ ?_
    rotate_left
    · intro w'
      go_simp
      with_reducible rfl
    rotate_left
    · simp only [Act.put, sx1, sx2, sx3, i64_w, i32_w]
      rfl
    refine take_ (i := 1) (N := some 16) (v := ?_) (a' := ?_) #[true, true, false, true, false, false, false, false, false] rfl rfl (by kernel_rfl) (fun _ _ _ h => h) (Or.inl ⟨by rfl, ?_⟩) hHeld ?_ ?_
    rotate_left
    · rintro w' ⟨s0, s1, s2, s3, s4, s5⟩
      go_simp
      with_reducible rfl
    rotate_left
    · simp only [Act.put, sx1, sx2, sx3, i64_w, i32_w]
      rfl
    refine take_ (i := 2) (N := some 17) (v := ?_) (a' := ?_) #[true, true, true, true, false, false, false, false, false] rfl rfl (by kernel_rfl) (fun _ _ _ h => h) (Or.inl ⟨by rfl, ?_⟩) hHeld ?_ ?_
    rotate_left
    · rintro w' ⟨s0, s1, s2, s3, s4, s5⟩
      go_simp
      with_reducible rfl
    rotate_left
    · simp only [Act.put, sx1, sx2, sx3, i64_w, i32_w]
      rfl
    refine one_ (i := 4) (N := some 19) #[true, true, true, true, true, false, false, false, false] rfl rfl (by kernel_rfl) (by decide) (fun K hK => ?_)
    refine goes_ Try.func17 (by kernel_rfl) rfl #[.agg #[.string a0_0, .int .i64 a0_1, .slice A0_2 l0_2.length c0_2, .int .i64 a0_3, .slice A0_4 l0_4.length c0_4], .int .i64 (m : Int)] (by rfl) rfl rfl lz ?_
    with_reducible refine (spec_NextBlocks.calls k a0_0 a0_1 _ _ l0_2 a0_3 _ _ l0_4 (m : Int) t _ ?side1 ?side2 ?side3 ?side4 HT.out).mono ?_
    (case side1 => exact Kd.C_below HR2.out HB.out)
    (case side2 => exact HC2.out)
    (case side3 => exact Kd.C_below HR4.out HB.out)
    (case side4 => exact HC4.out)
    rintro e wB ⟨vT, rfl, hoT, hb⟩
    refine ⟨_, rfl, ?_⟩
    obtain ⟨AT, cT, eT⟩ := Kd.R_slice hoT
    subst eT
    have HAS := Aside0.mk hb.size
    have n0_ := Aside0.mk (Kd.S_old HN.out hb)
    have n1_ := Aside0.mk (Kd.S_old HP.out hb)
    have n2_ := Aside0.mk (blk_below B1.out hb)
    have n3_ := Aside0.mk (blk_below B2.out hb)
    have n4_ := Aside0.mk (blk_below B3.out hb)
    have n5_ := Aside0.mk (below_step HB.out hb)
    clear HN HP B1 B2 B3 HB
    have HN := n0_
    have HP := n1_
    have B1 := n2_
    have B2 := n3_
    have B3 := n4_
    have HB := n5_
    clear n0_ n1_ n2_ n3_ n4_ n5_
    have HoT := Aside0.mk hoT
    clear hoT hb
    refine hK.out _ _ ⟨(blk_cell B3.out 0).trans rfl, (blk_cell B1.out 0).trans rfl, (blk_cell B1.out 1).trans rfl, (blk_cell B1.out 2).trans rfl, (blk_cell B1.out 3).trans rfl, (blk_cell B1.out 4).trans rfl⟩ (fun hHeld => ?_)
    clear hK K
    refine norm_ (a' := ?_) ?_ ?_
    rotate_left
    · show Act.put _ (some 19) _ = _
      simp only [Act.put, sx1, sx2, sx3, i64_w, i32_w]
      rfl
    refine one_ (i := 5) (N := some 20) #[true, true, true, true, true, true, false, false, false] rfl rfl (by kernel_rfl) (by decide) (fun K hK => ?_)
    refine value_ (w1 := ?_) (v := ?_) (by rfl) rfl ?_ ?_
    rotate_left 2
    · go_simp
      constructor
      · rfl
      · rfl
    refine hK.out _ _ ⟨(blk_cell (blk_alloc B3.out _) 0).trans rfl, (blk_cell (blk_alloc B1.out _) 0).trans rfl, (blk_cell (blk_alloc B1.out _) 1).trans rfl, (blk_cell (blk_alloc B1.out _) 2).trans rfl, (blk_cell (blk_alloc B1.out _) 3).trans rfl, (blk_cell (blk_alloc B1.out _) 4).trans rfl⟩ (fun hHeld => ?_)
    clear hK K
    refine norm_ (a' := ?_) ?_ ?_
    rotate_left
    · show Act.put _ (some 20) _ = _
      simp only [Act.put, sx1, sx2, sx3, i64_w, i32_w]
      rfl
    refine one_ (i := 6) (N := some 21) #[true, true, true, true, true, true, true, false, false] rfl rfl (by kernel_rfl) (by decide) (fun K hK => ?_)
    refine Kd.S_append_step (Kd.slice 2 (Kd.int .i64)) (w0 := w) w.heap.size (by rfl) (.tmp 16) (.tmp 20) 50 22 (.slice none 0 0) 24 rfl Try.underlying50 (by kernel_rfl) rfl (by decide) (by omega) vN N t [.slice AT t.length cT] (fun k_ => Pn k_ ∨ wA.heap.size ≤ k_) (fun k_ => some k_ = (.slice AT t.length cT : Value).ownBlock) rfl rfl ?aP ?aK ?aF ?aO ?aB ?aS ?aL ?_
    (case aP => exact Kd.M_row (Kd.R_lower (Kd.R_tight rfl HoT.out) HWA.out))
    (case aK => exact fun k_ e_ => ⟨.inr (Kd.R_base HoT.out k_ e_.symm), fun e2_ => by have h1_ := Kd.R_base HoT.out k_ e_.symm; have h2_ := ((Kd.S_R HN.out).1 k_ e2_.symm).2; omega⟩)
    (case aF => exact fun k_ hk => .inr (Nat.le_trans HAS.out hk))
    (case aO => exact Kd.S_mono HN.out (fun k_ hk => ⟨.inl hk.1, fun e_ => by have h1_ := Kd.R_base HoT.out k_ e_.symm; have h2_ := hk.2; omega⟩))
    (case aB => exact HB.out)
    (case aS => exact Nat.le_trans HWA.out HAS.out)
    (case aL => have := HL.out; omega)
    intro vN1 wC ho1 hb1 hg1 hat1
    obtain ⟨AN1, nN1, cN1, eN1⟩ : ∃ A n c, vN1 = .slice A n c := by obtain ⟨A, c, h⟩ := Kd.S_slice ho1; exact ⟨A, _, c, h⟩
    subst eN1
    have n0_ := Aside0.mk (Kd.S_grown HP.out hg1 (fun k_ hk e_ => HD.out k_ ((Kd.S_R HN.out).1 k_ e_.symm).1 hk.1))
    have n1_ := Aside0.mk (blk_grown B1.out hg1 (Kd.S_ne HN.out B1.out (by decide)))
    have n2_ := Aside0.mk (blk_grown B2.out hg1 (Kd.S_ne HN.out B2.out (by decide)))
    have n3_ := Aside0.mk (blk_grown B3.out hg1 (Kd.S_ne HN.out B3.out (by decide)))
    have n4_ := Aside0.mk (ho1)
    have n5_ := Aside0.mk (hb1)
    clear HP B1 B2 B3 HN HB
    have HP := n0_
    have B1 := n1_
    have B2 := n2_
    have B3 := n3_
    have HN := n4_
    have HB := n5_
    clear n0_ n1_ n2_ n3_ n4_ n5_
    have HAC := Aside0.mk (Nat.le_trans HAS.out hg1.size)
    clear ho1 hb1 hg1 hat1 HoT
    have hfzC := blk_frozen B3.out 0
    refine hK.out _ _ ⟨(blk_cell B3.out 0).trans rfl, (blk_cell B1.out 0).trans rfl, (blk_cell B1.out 1).trans rfl, (blk_cell B1.out 2).trans rfl, (blk_cell B1.out 3).trans rfl, (blk_cell B1.out 4).trans rfl⟩ (fun hHeld => ?_)
    clear hK K
    refine norm_ (a' := ?_) ?_ ?_
    rotate_left
    · show Act.put _ (some 21) _ = _
      simp only [Act.put, sx1, sx2, sx3, i64_w, i32_w]
      rfl
    refine pure_ (i := 7) (N := some 22) (v := ?_) (a' := ?_) #[true, true, true, true, true, true, true, true, false] rfl rfl (by kernel_rfl) (fun _ _ _ h => h) (Or.inl ⟨by rfl, ?_⟩) ?_ ?_
    rotate_left
    · intro w'
      go_simp
      with_reducible rfl
    rotate_left
    · simp only [Act.put, sx1, sx2, sx3, i64_w, i32_w]
      rfl
    refine last_ (i := 8) (N := none) #[true, true, true, true, true, true, true, true, true] rfl rfl (by kernel_rfl) (by decide) (fun K hK => ?_)
    refine skip_ (w1 := ?_) (by rfl) rfl ?_ ?_
    rotate_left
    · go_simp
      rfl
    refine hK.out _ _ ?_
    clear hK K
    refine done_ (by kernel_rfl) ?_
    obtain ⟨wD, hwD⟩ : ∃ wD, wD = wC.setCell ⟨g3, 0, none⟩ (.slice AN1 nN1 cN1) := ⟨_, rfl⟩
    rw [← hwD]
    have n0_ := Aside0.mk (show Kd.S (Kd.slice 2 (Kd.int .i64)) 22 wD w.heap.size (fun k_ => (Pn k_ ∨ wA.heap.size ≤ k_) ∧ k_ < wC.heap.size) (.slice AN1 nN1 cN1) (N ++ [t]) from by rw [hwD]; exact Kd.S_mono (Kd.S_bound (Kd.S_set HN.out B3.out (by decide) 0 (.slice AN1 nN1 cN1))) (fun k_ h_ => ⟨h_.1, by have h3_ := h_.2.2.1; rw [World.size_setCell] at h3_; exact h3_⟩))
    have n1_ := Aside0.mk (show Kd.S (Kd.slice 2 (Kd.int .i64)) 22 wD w.heap.size _ vP (List.replicate m []) from by rw [hwD]; exact Kd.S_set HP.out B3.out (by decide) 0 (.slice AN1 nN1 cN1))
    have n2_ := Aside0.mk (show wD.heap[g1]? = some (.cells #[.string a0_0, .int .i64 a0_1, .slice A0_2 l0_2.length c0_2, .int .i64 a0_3, .slice A0_4 l0_4.length c0_4] 30 (0, 0)) from by rw [hwD]; exact blk_far B1.out N13.out _)
    have n3_ := Aside0.mk (show wD.heap[g2]? = some (.cells #[.slice none 0 0, .slice none 0 0] 52 (0, 0)) from by rw [hwD]; exact blk_far B2.out N23.out _)
    have n4_ := Aside0.mk (show Below w.heap.size w wD from by rw [hwD]; exact below_set HB.out GB3.out)
    have n5_ := Aside0.mk (show wD.heap[g3]? = some (.cells #[(.slice AN1 nN1 cN1), vP] 52 (0, 0)) from by rw [hwD]; exact blk_put (cs := #[vN, vP]) B3.out 0 (.slice AN1 nN1 cN1) rfl)
    clear HN HP B1 B2 HB B3
    have HN := n0_
    have HP := n1_
    have B1 := n2_
    have B2 := n3_
    have HB := n4_
    have B3 := n5_
    clear n0_ n1_ n2_ n3_ n4_ n5_
    have HS := Aside0.mk (show wC.heap.size ≤ wD.heap.size from by rw [hwD, World.size_setCell]; exact Nat.le_refl _)
    clear hwD HAS hfzC
    have hcz_B3_0 : wD.cell? ⟨g3, 0, none⟩ = some ((.slice AN1 nN1 cN1)) := (blk_cell B3.out 0).trans rfl
    have hfz_B3_0 := blk_frozen B3.out 0
    have hcz_B3_1 : wD.cell? ⟨g3, 1, none⟩ = some (vP) := (blk_cell B3.out 1).trans rfl
    have hfz_B3_1 := blk_frozen B3.out 1
    have hcz_B1_0 : wD.cell? ⟨g1, 0, none⟩ = some (.string a0_0) := (blk_cell B1.out 0).trans rfl
    have hfz_B1_0 := blk_frozen B1.out 0
    have hcz_B1_1 : wD.cell? ⟨g1, 1, none⟩ = some (.int .i64 a0_1) := (blk_cell B1.out 1).trans rfl
    have hfz_B1_1 := blk_frozen B1.out 1
    have hcz_B1_2 : wD.cell? ⟨g1, 2, none⟩ = some (.slice A0_2 l0_2.length c0_2) := (blk_cell B1.out 2).trans rfl
    have hfz_B1_2 := blk_frozen B1.out 2
    have hcz_B1_3 : wD.cell? ⟨g1, 3, none⟩ = some (.int .i64 a0_3) := (blk_cell B1.out 3).trans rfl
    have hfz_B1_3 := blk_frozen B1.out 3
    have hcz_B1_4 : wD.cell? ⟨g1, 4, none⟩ = some (.slice A0_4 l0_4.length c0_4) := (blk_cell B1.out 4).trans rfl
    have hfz_B1_4 := blk_frozen B1.out 4
    go_wp2_with (first | (at_builtin; refine Kd.S_append (Kd.slice 2 (Kd.int .i64)) (w0 := w) w.heap.size rfl (.tmp 24) (.tmp 25) 50 22 (.slice none 0 0) 24 rfl Try.underlying50 (by kernel_rfl) rfl (by decide) (by omega) vP (List.replicate m []) [] [.slice none 0 0] (fun k_ => (Pp k_ ∧ k_ < wA.heap.size) ∨ wD.heap.size ≤ k_) (fun _ => False) rfl rfl ?aP (fun _ hk => hk.elim) ?aF ?aO ?aB ?aS ?aL ?_; (case aP => exact Kd.M_row (Kd.R_nil _ _ _ _ _)); (case aF => exact fun k_ hk => .inr hk); (case aO => exact Kd.S_mono HP.out (fun k_ hk => ⟨.inl hk, fun h_ => h_⟩)); (case aB => exact HB.out); (case aS => exact below_size HB.out); (case aL => rw [List.length_replicate]; omega); intro vP1 wE ho2 hb2 hg2 hat2; obtain ⟨AP1, nP1, cP1, eP1⟩ : ∃ A n c, vP1 = .slice A n c := (by obtain ⟨A, c, h⟩ := Kd.S_slice ho2; exact ⟨A, _, c, h⟩); subst eP1; have n0_ := Aside0.mk (Kd.S_grown HN.out hg2 (fun k_ hk e_ => by have h1_ := (Kd.S_R HP.out).1 k_ e_.symm; rcases hk.1 with h2_ | h2_; exact HD.out k_ h2_ h1_.1; have h3_ := h1_.2; omega)); have n1_ := Aside0.mk (blk_grown B1.out hg2 (Kd.S_ne HP.out B1.out (by decide))); have n2_ := Aside0.mk (blk_grown B2.out hg2 (Kd.S_ne HP.out B2.out (by decide))); have n3_ := Aside0.mk (blk_grown B3.out hg2 (Kd.S_ne HP.out B3.out (by decide))); have n4_ := Aside0.mk ho2; have n5_ := Aside0.mk hb2; clear HN HP B1 B2 B3 HB ho2 hb2 hg2 hat2 hcz_B3_0 hfz_B3_0 hcz_B3_1 hfz_B3_1 hcz_B1_0 hfz_B1_0 hcz_B1_1 hfz_B1_1 hcz_B1_2 hfz_B1_2 hcz_B1_3 hfz_B1_3 hcz_B1_4 hfz_B1_4; have HN := n0_; have B1 := n1_; have B2 := n2_; have B3 := n3_; have HP := n4_; have HB := n5_; clear n0_ n1_ n2_ n3_ n4_ n5_; have hcz_B3_0 : wE.cell? ⟨g3, 0, none⟩ = some (.slice AN1 nN1 cN1) := (blk_cell B3.out 0).trans rfl; have hcz_B3_1 : wE.cell? ⟨g3, 1, none⟩ = some vP := (blk_cell B3.out 1).trans rfl; have hfz_B3_0 := blk_frozen B3.out 0; have hfz_B3_1 := blk_frozen B3.out 1))
    go_roundw
    case measure => simp [intOf]; omega
    case rel => exact ⟨m + 1, (.slice AN1 nN1 cN1), (.slice AP1 nP1 cP1), N ++ [t], (fun k_ => (Pn k_ ∨ wA.heap.size ≤ k_) ∧ k_ < wC.heap.size), (fun k_ => (Pp k_ ∧ k_ < wA.heap.size) ∨ wD.heap.size ≤ k_), by go_num, by omega, HM1, ⟨fun k_ hn hp => by have hS_ := HS.out; rcases hp with h1_ | h1_ <;> rcases hn.1 with h2_ | h2_ <;> first | exact HD.out k_ h2_ h1_.1 | (have h3_ := hn.2; omega)⟩, ⟨Kd.S_set HN.out B3.out (by decide) 1 (.slice AP1 nP1 cP1)⟩, ⟨by rw [List.replicate_succ']; exact Kd.S_set HP.out B3.out (by decide) 1 (.slice AP1 nP1 cP1)⟩, ⟨blk_far B1.out N13.out _⟩, ⟨blk_far B2.out N23.out _⟩, ⟨blk_put (cs := #[(.slice AN1 nN1 cN1), vP]) B3.out 1 (.slice AP1 nP1 cP1) rfl⟩, ⟨below_set HB.out GB3.out⟩⟩
  · obtain rfl : m = l0_4.length := by omega
    have hNe : N = r0 := Option.some.inj (HM.out.symm.trans HRW.out)
    have HN2 : Aside0 (Kd.S (Kd.slice 2 (Kd.int .i64)) 22 wr w.heap.size Pn vN r0) := ⟨by rw [← hNe]; exact HN.out⟩
    have HP2 : Aside0 (Kd.S (Kd.slice 2 (Kd.int .i64)) 22 wr w.heap.size Pp vP (prevUp r0 0)) := ⟨by show Kd.S (Kd.slice 2 (Kd.int .i64)) 22 wr w.heap.size Pp vP (List.replicate r0.length []); rw [hlen]; exact HP.out⟩
    clear HN HP HM hNe N
    obtain ⟨AN, cN, eN⟩ := Kd.S_slice HN2.out
    subst eN
    have c1 : decide ((l0_4.length : Int) < (l0_4.length : Int)) = false := decide_eq_false (by omega)
    have hcz_B1_0 : wr.cell? ⟨g1, 0, none⟩ = some (.string a0_0) := (blk_cell B1.out 0).trans rfl
    have hfz_B1_0 := blk_frozen B1.out 0
    have hcz_B1_1 : wr.cell? ⟨g1, 1, none⟩ = some (.int .i64 a0_1) := (blk_cell B1.out 1).trans rfl
    have hfz_B1_1 := blk_frozen B1.out 1
    have hcz_B1_2 : wr.cell? ⟨g1, 2, none⟩ = some (.slice A0_2 l0_2.length c0_2) := (blk_cell B1.out 2).trans rfl
    have hfz_B1_2 := blk_frozen B1.out 2
    have hcz_B1_3 : wr.cell? ⟨g1, 3, none⟩ = some (.int .i64 a0_3) := (blk_cell B1.out 3).trans rfl
    have hfz_B1_3 := blk_frozen B1.out 3
    have hcz_B1_4 : wr.cell? ⟨g1, 4, none⟩ = some (.slice A0_4 l0_4.length c0_4) := (blk_cell B1.out 4).trans rfl
    have hfz_B1_4 := blk_frozen B1.out 4
    have HLEN := Aside0.mk hlen
    clear hlen
    go_wp2
    go_loopw [5] (fun v5 w' => ∃ (m : Nat) (vP : Value) (Pn Pp : Nat → Prop), v5 = .int .i64 (m : Int) ∧ m ≤ r0.length ∧ Aside0 (∀ k_ : Nat, Pn k_ → ¬ Pp k_) ∧ Aside0 (Kd.S (Kd.slice 2 (Kd.int .i64)) 22 w' w.heap.size Pn (.slice AN r0.length cN) r0) ∧ Aside0 (Kd.S (Kd.slice 2 (Kd.int .i64)) 22 w' w.heap.size Pp vP (prevUp r0 m)) ∧ Aside0 (w'.heap[g1]? = some (.cells #[.string a0_0, .int .i64 a0_1, .slice A0_2 l0_2.length c0_2, .int .i64 a0_3, .slice A0_4 l0_4.length c0_4] 30 (0, 0))) ∧ Aside0 (w'.heap[g2]? = some (.cells #[.slice none 0 0, .slice none 0 0] 52 (0, 0))) ∧ Aside0 (w'.heap[g3]? = some (.cells #[(.slice AN r0.length cN), vP] 52 (0, 0))) ∧ Aside0 (Below w.heap.size w w')) (fun v5 _ => r0.length - (intOf v5).toNat)
    case atStart => exact ⟨0, vP, Pn, Pp, rfl, Nat.zero_le _, HD, HN2, HP2, B1, B2, B3, HB⟩
    case round =>
     clear c1 HN2 HP2 HD B2 B3 HB Pn Pp vP
     clear hcz_B1_0 hfz_B1_0 hcz_B1_1 hfz_B1_1 hcz_B1_2 hfz_B1_2 hcz_B1_3 hfz_B1_3 hcz_B1_4 hfz_B1_4
     clear B1
     obtain ⟨m, vP, Pn, Pp, rfl, hm, HD, HN, HP, B1, B2, B3, HB⟩ := hrel
     by_cases hlt : m < r0.length
     · have c1 : decide ((m : Int) < (r0.length : Int)) = true := decide_eq_true (by omega)
       obtain ⟨row, hrow⟩ : ∃ row, row = r0.getD m [] := ⟨_, rfl⟩
       obtain ⟨hrl, hrt⟩ := okRows_at HOK.out m hlt
       rw [← hrow] at hrl hrt
       have HRT := Aside0.mk hrt
       have HROW := Aside0.mk hrow
       clear hrt hrow
       have hcz_B3_0 : wr.cell? ⟨g3, 0, none⟩ = some (.slice AN r0.length cN) := (blk_cell B3.out 0).trans rfl
       have hfz_B3_0 := blk_frozen B3.out 0
       have hcz_B3_1 : wr.cell? ⟨g3, 1, none⟩ = some (vP) := (blk_cell B3.out 1).trans rfl
       have hfz_B3_1 := blk_frozen B3.out 1
       go_wp2
       go_loopw [6] (fun v6 w' => ∃ (j : Nat) (vP : Value) (Pn Pp : Nat → Prop), v6 = .int .i64 (j : Int) ∧ j ≤ row.length ∧ Aside0 (∀ k_ : Nat, Pn k_ → ¬ Pp k_) ∧ Aside0 (Kd.S (Kd.slice 2 (Kd.int .i64)) 22 w' w.heap.size Pn (.slice AN r0.length cN) r0) ∧ Aside0 (Kd.S (Kd.slice 2 (Kd.int .i64)) 22 w' w.heap.size Pp vP (pushB (prevUp r0 m) (m : Int) (row.take j))) ∧ Aside0 (w'.heap[g1]? = some (.cells #[.string a0_0, .int .i64 a0_1, .slice A0_2 l0_2.length c0_2, .int .i64 a0_3, .slice A0_4 l0_4.length c0_4] 30 (0, 0))) ∧ Aside0 (w'.heap[g2]? = some (.cells #[.slice none 0 0, .slice none 0 0] 52 (0, 0))) ∧ Aside0 (w'.heap[g3]? = some (.cells #[(.slice AN r0.length cN), vP] 52 (0, 0))) ∧ Aside0 (Below w.heap.size w w')) (fun v6 _ => row.length - (intOf v6).toNat)
       case atStart => exact ⟨0, vP, Pn, Pp, rfl, Nat.zero_le _, HD, HN, ⟨by rw [List.take_zero]; exact HP.out⟩, B1, B2, B3, HB⟩
       case round =>
        clear hcz_B3_0 hfz_B3_0 hcz_B3_1 hfz_B3_1
        clear c1 HN HP HD B1 B2 B3 HB Pn Pp vP
        obtain ⟨j, vP, Pn, Pp, rfl, hj, HD, HN, HP, B1, B2, B3, HB⟩ := hrel
        have hN := HN.out
        obtain ⟨gN, cN2, eN, _, _, _⟩ := Kd.S_form hN (by omega)
        injection eN with e1 e2 e3
        subst e1
        clear e2 e3 cN2
        obtain ⟨cx, _, hM, hcc⟩ := Kd.S_get hN [] (m : Int) (by omega) (by omega)
        obtain ⟨vx, rfl, hRi⟩ := hM
        have hcx := hcc 0 vx rfl
        rw [show ((Kd.slice 2 (Kd.int .i64))).sz = 1 from rfl, Nat.mul_one, Nat.add_zero, Int.toNat_natCast, add_plain] at hcx
        rw [Int.toNat_natCast, ← HROW.out] at hRi
        obtain ⟨AI, cI, eI⟩ := Kd.R_slice hRi
        subst eI
        have HRi := Aside0.mk hRi
        have HCX := Aside0.mk hcx
        clear hcc hN hRi
        by_cases hjl : j < row.length
        · have c1 : decide ((m : Int) < (r0.length : Int)) = true := decide_eq_true (by omega)
          have c2 : decide ((j : Int) < (row.length : Int)) = true := decide_eq_true (by omega)
          have i1 : (m : Int) < (r0.length : Int) := by omega
          have i2 : (j : Int) < (row.length : Int) := by omega
          have hcz_B3_0 : wr.cell? ⟨g3, 0, none⟩ = some (.slice (some ⟨gN, 0, none⟩) r0.length cN) := (blk_cell B3.out 0).trans rfl
          have hfz_B3_0 := blk_frozen B3.out 0
          have hcz_B3_1 : wr.cell? ⟨g3, 1, none⟩ = some (vP) := (blk_cell B3.out 1).trans rfl
          have hfz_B3_1 := blk_frozen B3.out 1
          go_upto_region 13 with (fail)
          clear hcz_B3_0 hfz_B3_0 hcz_B3_1 hfz_B3_1
          clear hcx
          have hrd := Kd.reads_of_C (d := (0 : Int)) (Kd.R_reads' HRi.out).2.2
          obtain ⟨adI, e3, hct⟩ := ReadsInt.at_ (k := .i64) hrd (j : Int) (by omega) (by omega)
          subst e3
          rw [Int.toNat_natCast] at hct
          clear hrd
          obtain ⟨htm, htk⟩ := rd_take hjl
          obtain ⟨t, ht⟩ : ∃ t, t = rd row (j : Int) := ⟨_, rfl⟩
          rw [← ht] at hct htm htk
          obtain ⟨ht0, ht1⟩ := HRT.out t htm
          have hlen := HLEN.out
          rw [← hlen] at ht1
          obtain ⟨PR, hPR⟩ : ∃ P_, P_ = pushB (prevUp r0 m) (m : Int) (row.take j) := ⟨_, rfl⟩
          have hPl : PR.length = r0.length := by rw [hPR, pushB_len, prevUp_len]
          have hP := HP.out
          rw [← hPR] at hP
          obtain ⟨gP, cP, eP, hgP, _, _⟩ := Kd.S_form hP (by omega)
          subst eP
          have hP2 : Kd.S (Kd.slice 2 (Kd.int .i64)) 22 wr.drew w.heap.size (fun k_ => (Pp k_ ∧ k_ < wr.drew.heap.size) ∨ wr.drew.heap.size ≤ k_) (.slice (some ⟨gP, 0, none⟩) PR.length cP) PR := Kd.S_drew (Kd.S_mono (Kd.S_bound hP) (fun k_ h_ => .inl ⟨h_.1, h_.2.2.1⟩))
          obtain ⟨cx2, _, hM2, hcc2⟩ := Kd.S_get hP2 [] t ht0 (by omega)
          obtain ⟨vi, rfl, hRv⟩ := hM2
          have hcv := hcc2 0 vi rfl
          rw [show ((Kd.slice 2 (Kd.int .i64))).sz = 1 from rfl, Nat.mul_one, Nat.add_zero, add_plain] at hcv
          clear hcc2 hRv
          obtain ⟨_, _, _, _, hfr⟩ := Kd.R_elem (Kd.S_R hP2) [] t ht0 (by omega)
          have hfv := hfr 0
          rw [show ((Kd.slice 2 (Kd.int .i64))).sz = 1 from rfl, Nat.mul_one, Nat.add_zero] at hfv
          clear hfr
          obtain ⟨oki, hRo, hoki, hpush⟩ := S_push hP2 t ht0 (by omega) hcv
          obtain ⟨xi, hxi⟩ : ∃ x_, x_ = PR.getD t.toNat [] := ⟨_, rfl⟩
          rw [← hxi] at hRo
          obtain ⟨AV, cV, eV⟩ := Kd.R_slice hRo
          subst eV
          have hxl : xi.length ≤ m * 2000000 + j := by
           have h1_ := pushB_row (m : Int) t.toNat (row.take j) (prevUp r0 m)
           have h2_ := prevUp_row HOK.out t.toNat m (by omega)
           rw [List.length_take] at h1_
           rw [hxi, hPR]
           omega
          have hxb : (xi.length + 1) * 8 ≤ 140737488355328 := by
           omega
          have hset : pushB (prevUp r0 m) (m : Int) (row.take (j + 1)) = PR.set t.toNat (xi ++ [(m : Int)]) := by rw [htk, pushB_snoc, ← hPR, ← hxi]
          have HSET := Aside0.mk hset
          have HXB := Aside0.mk hxb
          have i3 : t < (PR.length : Int) := by omega
          clear hset hxb hxl ht1 htm htk hPR hxi ht hPl hlen
          have HWA := Aside0.mk (show w.heap.size ≤ wr.drew.heap.size from below_size (below_drew HB.out))
          have HGP := Aside0.mk (show w.heap.size ≤ gP from hgP)
          have HCT := Aside0.mk (show wr.drew.cell? (adI.add j) = some (.int .i64 t) from hct)
          have n0_ := Aside0.mk (show wr.drew.cell? ⟨gN, m, none⟩ = some (.slice (some adI) row.length cI) from HCX.out)
          have HCV := Aside0.mk hcv
          have HFV := Aside0.mk hfv
          have HPU := Aside0.mk hpush
          have HOI := Aside0.mk hoki
          have HRO := Aside0.mk hRo
          have n1_ := Aside0.mk (Kd.S_drew (Kd.S_mono (Kd.S_bound HN.out) (fun k_ h_ => (⟨h_.1, h_.2.2.1⟩ : Pn k_ ∧ k_ < wr.drew.heap.size))))
          have n2_ := Aside0.mk (Kd.R_drew HRi.out)
          have n3_ := Aside0.mk hP2
          have n4_ := Aside0.mk (blk_drew B1.out)
          have n5_ := Aside0.mk (blk_drew B2.out)
          have n6_ := Aside0.mk (blk_drew B3.out)
          have n7_ := Aside0.mk (below_drew HB.out)
          clear HCX hct hcv hfv hpush hoki hRo HN HRi hP2 hP HP B1 B2 B3 HB hgP
          have HCX := n0_
          have HN := n1_
          have HRi := n2_
          have HP := n3_
          have B1 := n4_
          have B2 := n5_
          have B3 := n6_
          have HB := n7_
          clear n0_ n1_ n2_ n3_ n4_ n5_ n6_ n7_
          refine start_ (n := 27) (S := fun w' => w'.cell? ⟨g3, 0, none⟩ = some (.slice (some ⟨gN, 0, none⟩) r0.length cN) ∧ w'.cell? ⟨g3, 1, none⟩ = some (.slice (some ⟨gP, 0, none⟩) PR.length cP) ∧ w'.cell? ⟨gN, m, none⟩ = some (.slice (some adI) row.length cI) ∧ w'.cell? (adI.add j) = some (.int .i64 t) ∧ w'.cell? ⟨gP, t.toNat, none⟩ = some (.slice AV xi.length cV)) (ds := [26]) #[false, false, false, false, false, false, false, false, false, false, false, false, false, false, false, false, false, false, false, false, false, false, false, false, false, false, false] (by kernel_rfl) rfl rfl ⟨(blk_cell B3.out 0).trans rfl, (blk_cell B3.out 1).trans rfl, HCX.out, HCT.out, HCV.out⟩ (fun hHeld => ?_)
          generalize wr.drew = wA at HWA HCT HCX HCV HFV HPU HOI HRO HN HRi HP B1 B2 B3 HB hHeld ⊢
          refine pure_ (i := 0) (N := some 45) (v := ?_) (a' := ?_) #[true, false, false, false, false, false, false, false, false, false, false, false, false, false, false, false, false, false, false, false, false, false, false, false, false, false, false] rfl rfl (by kernel_rfl) (fun _ _ _ h => h) (Or.inl ⟨by rfl, ?_⟩) ?_ ?_
          rotate_left
          · intro w'
            go_simp
            with_reducible rfl
          rotate_left
          · simp only [Act.put, sx1, sx2, sx3, i64_w, i32_w]
            rfl
          refine pure_ (i := 2) (N := some 47) (v := ?_) (a' := ?_) #[true, false, true, false, false, false, false, false, false, false, false, false, false, false, false, false, false, false, false, false, false, false, false, false, false, false, false] rfl rfl (by kernel_rfl) (fun _ _ _ h => h) (Or.inl ⟨by rfl, ?_⟩) ?_ ?_
          rotate_left
          · intro w'
            go_simp
            with_reducible rfl
          rotate_left
          · simp only [Act.put, sx1, sx2, sx3, i64_w, i32_w]
            rfl
          refine pure_ (i := 4) (N := some 49) (v := ?_) (a' := ?_) #[true, false, true, false, true, false, false, false, false, false, false, false, false, false, false, false, false, false, false, false, false, false, false, false, false, false, false] rfl rfl (by kernel_rfl) (fun _ _ _ h => h) (Or.inl ⟨by rfl, ?_⟩) ?_ ?_
          rotate_left
          · intro w'
            go_simp
            with_reducible rfl
          rotate_left
          · simp only [Act.put, sx1, sx2, sx3, i64_w, i32_w]
            rfl
          refine pure_ (i := 7) (N := some 52) (v := ?_) (a' := ?_) #[true, false, true, false, true, false, false, true, false, false, false, false, false, false, false, false, false, false, false, false, false, false, false, false, false, false, false] rfl rfl (by kernel_rfl) (fun _ _ _ h => h) (Or.inl ⟨by rfl, ?_⟩) ?_ ?_
          rotate_left
          · intro w'
            go_simp
            with_reducible rfl
          rotate_left
          · simp only [Act.put, sx1, sx2, sx3, i64_w, i32_w]
            rfl
          refine pure_ (i := 10) (N := some 55) (v := ?_) (a' := ?_) #[true, false, true, false, true, false, false, true, false, false, true, false, false, false, false, false, false, false, false, false, false, false, false, false, false, false, false] rfl rfl (by kernel_rfl) (fun _ _ _ h => h) (Or.inl ⟨by rfl, ?_⟩) ?_ ?_
          rotate_left
          · intro w'
            go_simp
            with_reducible rfl
          rotate_left
          · simp only [Act.put, sx1, sx2, sx3, i64_w, i32_w]
            rfl
          refine pure_ (i := 12) (N := some 57) (v := ?_) (a' := ?_) #[true, false, true, false, true, false, false, true, false, false, true, false, true, false, false, false, false, false, false, false, false, false, false, false, false, false, false] rfl rfl (by kernel_rfl) (fun _ _ _ h => h) (Or.inl ⟨by rfl, ?_⟩) ?_ ?_
          rotate_left
          · intro w'
            go_simp
            with_reducible rfl
          rotate_left
          · simp only [Act.put, sx1, sx2, sx3, i64_w, i32_w]
            rfl
          refine pure_ (i := 14) (N := some 59) (v := ?_) (a' := ?_) #[true, false, true, false, true, false, false, true, false, false, true, false, true, false, true, false, false, false, false, false, false, false, false, false, false, false, false] rfl rfl (by kernel_rfl) (fun _ _ _ h => h) (Or.inl ⟨by rfl, ?_⟩) ?_ ?_
          rotate_left
          · intro w'
            go_simp
            with_reducible rfl
          rotate_left
          · simp only [Act.put, sx1, sx2, sx3, i64_w, i32_w]
            rfl
          refine pure_ (i := 17) (N := some 62) (v := ?_) (a' := ?_) #[true, false, true, false, true, false, false, true, false, false, true, false, true, false, true, false, false, true, false, false, false, false, false, false, false, false, false] rfl rfl (by kernel_rfl) (fun _ _ _ h => h) (Or.inl ⟨by rfl, ?_⟩) ?_ ?_
          rotate_left
          · intro w'
            go_simp
            with_reducible rfl
          rotate_left
          · simp only [Act.put, sx1, sx2, sx3, i64_w, i32_w]
            rfl
          refine pure_ (i := 22) (N := some 67) (v := ?_) (a' := ?_) #[true, false, true, false, true, false, false, true, false, false, true, false, true, false, true, false, false, true, false, false, false, false, true, false, false, false, false] rfl rfl (by kernel_rfl) (fun _ _ _ h => h) (Or.inl ⟨by rfl, ?_⟩) ?_ ?_
          rotate_left
          · intro w'
            go_simp
            with_reducible rfl
          rotate_left
          · simp only [Act.put, sx1, sx2, sx3, i64_w, i32_w]
            rfl
          refine take_ (i := 1) (N := some 46) (v := ?_) (a' := ?_) #[true, true, true, false, true, false, false, true, false, false, true, false, true, false, true, false, false, true, false, false, false, false, true, false, false, false, false] rfl rfl (by kernel_rfl) (fun _ _ _ h => h) (Or.inl ⟨by rfl, ?_⟩) hHeld ?_ ?_
          rotate_left
          · rintro w' ⟨s0, s1, s2, s3, s4⟩
            go_simp
            with_reducible rfl
          rotate_left
          · simp only [Act.put, sx1, sx2, sx3, i64_w, i32_w]
            rfl
          refine take_ (i := 3) (N := some 48) (v := ?_) (a' := ?_) #[true, true, true, true, true, false, false, true, false, false, true, false, true, false, true, false, false, true, false, false, false, false, true, false, false, false, false] rfl rfl (by kernel_rfl) (fun _ _ _ h => h) (Or.inl ⟨by rfl, ?_⟩) hHeld ?_ ?_
          rotate_left
          · rintro w' ⟨s0, s1, s2, s3, s4⟩
            go_simp
            with_reducible rfl
          rotate_left
          · simp only [Act.put, sx1, sx2, sx3, i64_w, i32_w]
            rfl
          refine pure_ (i := 5) (N := some 50) (v := ?_) (a' := ?_) #[true, true, true, true, true, true, false, true, false, false, true, false, true, false, true, false, false, true, false, false, false, false, true, false, false, false, false] rfl rfl (by kernel_rfl) (fun _ _ _ h => h) (Or.inl ⟨by rfl, ?_⟩) ?_ ?_
          rotate_left
          · intro w'
            go_simp
            with_reducible rfl
          rotate_left
          · simp only [Act.put, sx1, sx2, sx3, i64_w, i32_w]
            rfl
          refine take_ (i := 6) (N := some 51) (v := ?_) (a' := ?_) #[true, true, true, true, true, true, true, true, false, false, true, false, true, false, true, false, false, true, false, false, false, false, true, false, false, false, false] rfl rfl (by kernel_rfl) (fun _ _ _ h => h) (Or.inl ⟨by rfl, ?_⟩) hHeld ?_ ?_
          rotate_left
          · rintro w' ⟨s0, s1, s2, s3, s4⟩
            go_simp
            with_reducible rfl
          rotate_left
          · simp only [Act.put, sx1, sx2, sx3, i64_w, i32_w]
            rfl
          refine pure_ (i := 8) (N := some 53) (v := ?_) (a' := ?_) #[true, true, true, true, true, true, true, true, true, false, true, false, true, false, true, false, false, true, false, false, false, false, true, false, false, false, false] rfl rfl (by kernel_rfl) (fun _ _ _ h => h) (Or.inl ⟨by rfl, ?_⟩) ?_ ?_
          rotate_left
          · intro w'
            go_simp
            with_reducible rfl
          rotate_left
          · simp only [Act.put, sx1, sx2, sx3, i64_w, i32_w]
            rfl
          refine take_ (i := 9) (N := some 54) (v := ?_) (a' := ?_) #[true, true, true, true, true, true, true, true, true, true, true, false, true, false, true, false, false, true, false, false, false, false, true, false, false, false, false] rfl rfl (by kernel_rfl) (fun _ _ _ h => h) (Or.inl ⟨by rfl, ?_⟩) hHeld ?_ ?_
          rotate_left
          · rintro w' ⟨s0, s1, s2, s3, s4⟩
            go_simp
            with_reducible rfl
          rotate_left
          · simp only [Act.put, sx1, sx2, sx3, i64_w, i32_w]
            rfl
          refine take_ (i := 11) (N := some 56) (v := ?_) (a' := ?_) #[true, true, true, true, true, true, true, true, true, true, true, true, true, false, true, false, false, true, false, false, false, false, true, false, false, false, false] rfl rfl (by kernel_rfl) (fun _ _ _ h => h) (Or.inl ⟨by rfl, ?_⟩) hHeld ?_ ?_
          rotate_left
          · rintro w' ⟨s0, s1, s2, s3, s4⟩
            go_simp
            with_reducible rfl
          rotate_left
          · simp only [Act.put, sx1, sx2, sx3, i64_w, i32_w]
            rfl
          refine take_ (i := 13) (N := some 58) (v := ?_) (a' := ?_) #[true, true, true, true, true, true, true, true, true, true, true, true, true, true, true, false, false, true, false, false, false, false, true, false, false, false, false] rfl rfl (by kernel_rfl) (fun _ _ _ h => h) (Or.inl ⟨by rfl, ?_⟩) hHeld ?_ ?_
          rotate_left
          · rintro w' ⟨s0, s1, s2, s3, s4⟩
            go_simp
            with_reducible rfl
          rotate_left
          · simp only [Act.put, sx1, sx2, sx3, i64_w, i32_w]
            rfl
          refine pure_ (i := 15) (N := some 60) (v := ?_) (a' := ?_) #[true, true, true, true, true, true, true, true, true, true, true, true, true, true, true, true, false, true, false, false, false, false, true, false, false, false, false] rfl rfl (by kernel_rfl) (fun _ _ _ h => h) (Or.inl ⟨by rfl, ?_⟩) ?_ ?_
          rotate_left
          · intro w'
            go_simp
            with_reducible rfl
          rotate_left
          · simp only [Act.put, sx1, sx2, sx3, i64_w, i32_w]
            rfl
          refine take_ (i := 16) (N := some 61) (v := ?_) (a' := ?_) #[true, true, true, true, true, true, true, true, true, true, true, true, true, true, true, true, true, true, false, false, false, false, true, false, false, false, false] rfl rfl (by kernel_rfl) (fun _ _ _ h => h) (Or.inl ⟨by rfl, ?_⟩) hHeld ?_ ?_
          rotate_left
          · rintro w' ⟨s0, s1, s2, s3, s4⟩
            go_simp
            with_reducible rfl
          rotate_left
          · simp only [Act.put, sx1, sx2, sx3, i64_w, i32_w]
            rfl
          refine pure_ (i := 18) (N := some 63) (v := ?_) (a' := ?_) #[true, true, true, true, true, true, true, true, true, true, true, true, true, true, true, true, true, true, true, false, false, false, true, false, false, false, false] rfl rfl (by kernel_rfl) (fun _ _ _ h => h) (Or.inl ⟨by rfl, ?_⟩) ?_ ?_
          rotate_left
          · intro w'
            go_simp
            with_reducible rfl
          rotate_left
          · simp only [Act.put, sx1, sx2, sx3, i64_w, i32_w]
            rfl
          refine take_ (i := 19) (N := some 64) (v := ?_) (a' := ?_) #[true, true, true, true, true, true, true, true, true, true, true, true, true, true, true, true, true, true, true, true, false, false, true, false, false, false, false] rfl rfl (by kernel_rfl) (fun _ _ _ h => h) (Or.inl ⟨by rfl, ?_⟩) hHeld ?_ ?_
          rotate_left
          · rintro w' ⟨s0, s1, s2, s3, s4⟩
            go_simp
            with_reducible rfl
          rotate_left
          · simp only [Act.put, sx1, sx2, sx3, i64_w, i32_w]
            rfl
          refine pure_ (i := 20) (N := some 65) (v := ?_) (a' := ?_) #[true, true, true, true, true, true, true, true, true, true, true, true, true, true, true, true, true, true, true, true, true, false, true, false, false, false, false] rfl rfl (by kernel_rfl) (fun _ _ _ h => h) (Or.inl ⟨by rfl, ?_⟩) ?_ ?_
          rotate_left
          · intro w'
            go_simp
            with_reducible rfl
          rotate_left
          · simp only [Act.put, sx1, sx2, sx3, i64_w, i32_w]
            rfl
          refine take_ (i := 21) (N := some 66) (v := ?_) (a' := ?_) #[true, true, true, true, true, true, true, true, true, true, true, true, true, true, true, true, true, true, true, true, true, true, true, false, false, false, false] rfl rfl (by kernel_rfl) (fun _ _ _ h => h) (Or.inl ⟨by rfl, ?_⟩) hHeld ?_ ?_
          rotate_left
          · rintro w' ⟨s0, s1, s2, s3, s4⟩
            go_simp
            with_reducible rfl
          rotate_left
          · simp only [Act.put, sx1, sx2, sx3, i64_w, i32_w]
            rfl
          refine one_ (i := 23) (N := some 68) #[true, true, true, true, true, true, true, true, true, true, true, true, true, true, true, true, true, true, true, true, true, true, true, true, false, false, false] rfl rfl (by kernel_rfl) (by decide) (fun K hK => ?_)
          refine value_ (w1 := ?_) (v := ?_) (by rfl) rfl ?_ ?_
          rotate_left 2
          · go_simp
            constructor
            · rfl
            · rfl
          refine hK.out _ _ ⟨(blk_cell (blk_alloc B3.out _) 0).trans rfl, (blk_cell (blk_alloc B3.out _) 1).trans rfl, cell_al HCX.out _, cell_al HCT.out _, cell_al HCV.out _⟩ (fun hHeld => ?_)
          clear hK K
          refine norm_ (a' := ?_) ?_ ?_
          rotate_left
          · show Act.put _ (some 68) _ = _
            simp only [Act.put, sx1, sx2, sx3, i64_w, i32_w]
            rfl
          refine one_ (i := 24) (N := some 69) #[true, true, true, true, true, true, true, true, true, true, true, true, true, true, true, true, true, true, true, true, true, true, true, true, true, false, false] rfl rfl (by kernel_rfl) (by decide) (fun K hK => ?_)
          refine Kd.R_append_step (Kd.int .i64) (w0 := w) w.heap.size (by rfl) (.tmp 66) (.tmp 68) 22 2 (.int .i64 0) 8 rfl Try.underlying22 (by kernel_rfl) rfl (by decide) (by omega) (.slice AV xi.length cV) xi (m : Int) [.int .i64 (m : Int)] (fun k_ => oki k_ ∨ ((Pp k_ ∧ k_ < wA.heap.size) ∨ wA.heap.size ≤ k_) ∧ wA.heap.size ≤ k_) (fun _ => False) rfl rfl ?aP (fun _ hk => hk.elim) ?aF ?aO ?aB ?aS ?aL ?_
          (case aP => exact rfl)
          (case aF => exact fun k_ hk => .inr ⟨.inr hk, hk⟩)
          (case aO => exact Kd.R_mono HRO.out (fun _ hk => .inl hk))
          (case aB => exact HB.out)
          (case aS => exact HWA.out)
          (case aL => exact HXB.out)
          intro v1 wC ho1 hb1 hg1 hat1
          obtain ⟨A1, n1, c1_, ev1⟩ : ∃ A n c, v1 = .slice A n c := by obtain ⟨A, c, h⟩ := Kd.R_slice ho1; exact ⟨A, _, c, h⟩
          subst ev1
          have hne1 : ∀ k_ : Nat, Pn k_ → k_ < wA.heap.size → some k_ ≠ (.slice AV xi.length cV : Value).ownBlock := fun k_ h1_ h2_ e_ => by
           rcases (HOI.out k_ (HRO.out.1 k_ e_.symm)).1 with h3_ | h3_
           · exact HD.out k_ h1_ h3_.1
           · omega
          have hne2 : some gP ≠ (.slice AV xi.length cV : Value).ownBlock := fun e_ => (HOI.out gP (HRO.out.1 gP e_.symm)).2 rfl
          have hgN := ((Kd.S_R HN.out).1 gN rfl)
          have hgI := (HRi.out.1 adI.block (by simp [Value.ownBlock])).1
          have hab : (adI.add j).block = adI.block := by unfold Addr.add; split <;> rfl
          have hgI2 : adI.block < wA.heap.size := hab ▸ World.block_lt_of_cell? wA _ HCT.out
          have HP0 := HP
          have HG1 := Aside0.mk (fun e_ : g1 = gP => Kd.S_ne HP.out B1.out (by decide) (by rw [e_]; rfl))
          have HG2 := Aside0.mk (fun e_ : g2 = gP => Kd.S_ne HP.out B2.out (by decide) (by rw [e_]; rfl))
          have HG3 := Aside0.mk (fun e_ : g3 = gP => Kd.S_ne HP.out B3.out (by decide) (by rw [e_]; rfl))
          have n0_ := Aside0.mk (Kd.S_grown HN.out hg1 (fun k_ hk => hne1 k_ hk.1 hk.2))
          have n1_ := Aside0.mk (HPU.out wC _ _ hg1 ho1)
          have n2_ := Aside0.mk (blk_grown B1.out hg1 (Kd.R_ne HRO.out B1.out (by decide)))
          have n3_ := Aside0.mk (blk_grown B2.out hg1 (Kd.R_ne HRO.out B2.out (by decide)))
          have n4_ := Aside0.mk (blk_grown B3.out hg1 (Kd.R_ne HRO.out B3.out (by decide)))
          have n5_ := Aside0.mk (hb1)
          have n6_ := Aside0.mk (cell_grown hg1 HCX.out (hne1 gN hgN.1 hgN.2))
          have n7_ := Aside0.mk (cell_grown hg1 HCT.out (by rw [hab]; exact hne1 _ hgI hgI2))
          have n8_ := Aside0.mk (frozen_gr hg1 HCV.out HFV.out hne2)
          have n9_ := Aside0.mk (cell_grown hg1 HCV.out hne2)
          clear HN HP B1 B2 B3 HB HCX HCT HFV HCV
          have HN := n0_
          have HP := n1_
          have B1 := n2_
          have B2 := n3_
          have B3 := n4_
          have HB := n5_
          have HCX := n6_
          have HCT := n7_
          have HFV := n8_
          have HCV := n9_
          clear n0_ n1_ n2_ n3_ n4_ n5_ n6_ n7_ n8_ n9_
          have hPgP : (Pp gP ∧ gP < wA.heap.size) ∨ wA.heap.size ≤ gP := (Kd.S_R HP0.out).1 gP rfl
          have HNP := Aside0.mk (show ∀ k_ : Nat, (Pn k_ ∧ k_ < wA.heap.size) → k_ ≠ gP from fun k_ hk e_ => by subst e_; rcases hPgP with h3_ | h3_; exact HD.out _ hk.1 h3_.1; have := hk.2; omega)
          clear hPgP HP0
          clear ho1 hb1 hat1 hne1 hne2 hgN hgI hgI2 hab hg1 HPU
          have hfzC := HFV.out
          refine hK.out _ _ ⟨(blk_cell B3.out 0).trans rfl, (blk_cell B3.out 1).trans rfl, HCX.out, HCT.out, HCV.out⟩ (fun hHeld => ?_)
          clear hK K
          refine norm_ (a' := ?_) ?_ ?_
          rotate_left
          · show Act.put _ (some 69) _ = _
            simp only [Act.put, sx1, sx2, sx3, i64_w, i32_w]
            rfl
          refine pure_ (i := 25) (N := some 70) (v := ?_) (a' := ?_) #[true, true, true, true, true, true, true, true, true, true, true, true, true, true, true, true, true, true, true, true, true, true, true, true, true, true, false] rfl rfl (by kernel_rfl) (fun _ _ _ h => h) (Or.inl ⟨by rfl, ?_⟩) ?_ ?_
          rotate_left
          · intro w'
            go_simp
            with_reducible rfl
          rotate_left
          · simp only [Act.put, sx1, sx2, sx3, i64_w, i32_w]
            rfl
          refine last_ (i := 26) (N := none) #[true, true, true, true, true, true, true, true, true, true, true, true, true, true, true, true, true, true, true, true, true, true, true, true, true, true, true] rfl rfl (by kernel_rfl) (by decide) (fun K hK => ?_)
          refine skip_ (w1 := ?_) (by rfl) rfl ?_ ?_
          rotate_left
          · go_simp
            rfl
          refine hK.out _ _ ?_
          clear hK K
          refine done_ (by kernel_rfl) ?_
          go_wp2
          go_roundw
          case measure => simp [intOf]; omega
          case rel => exact ⟨j + 1, .slice (some ⟨gP, 0, none⟩) PR.length cP, (fun k_ => Pn k_ ∧ k_ < wA.heap.size), (fun k_ => (Pp k_ ∧ k_ < wA.heap.size) ∨ wA.heap.size ≤ k_), by go_num, by omega, ⟨fun k_ hn hp => by rcases hp with h1_ | h1_; exact HD.out k_ hn.1 h1_.1; have := hn.2; omega⟩, ⟨Kd.S_far HN.out HNP.out _⟩, ⟨by rw [HSET.out]; exact HP.out⟩, ⟨blk_far B1.out HG1.out _⟩, ⟨blk_far B2.out HG2.out _⟩, ⟨blk_far B3.out HG3.out _⟩, ⟨below_set HB.out HGP.out⟩⟩
        · obtain rfl : j = row.length := by omega
          have c1 : decide ((m : Int) < (r0.length : Int)) = true := decide_eq_true (by omega)
          have c2 : decide ((row.length : Int) < (row.length : Int)) = false := decide_eq_false (by omega)
          have i1 : (m : Int) < (r0.length : Int) := by omega
          have hcz_B3_0 : wr.cell? ⟨g3, 0, none⟩ = some (.slice (some ⟨gN, 0, none⟩) r0.length cN) := (blk_cell B3.out 0).trans rfl
          have hfz_B3_0 := blk_frozen B3.out 0
          have hcz_B3_1 : wr.cell? ⟨g3, 1, none⟩ = some (vP) := (blk_cell B3.out 1).trans rfl
          have hfz_B3_1 := blk_frozen B3.out 1
          go_wp2
          go_roundw
          case measure => have hlen := HLEN.out; rw [IntWalk.wrap64_in ((m : Int) + 1) (by omega)]; simp [intOf]; omega
          case rel => have hlen := HLEN.out; exact ⟨m + 1, vP, Pn, Pp, by rw [IntWalk.wrap64_in ((m : Int) + 1) (by omega)]; rfl, by omega, HD, HN, ⟨by have h_ := HP.out; rw [List.take_length] at h_; rw [prevUp, ← HROW.out]; exact h_⟩, B1, B2, B3, HB⟩
     · obtain rfl : m = r0.length := by omega
       have c1 : decide ((r0.length : Int) < (r0.length : Int)) = false := decide_eq_false (by omega)
       obtain ⟨AP, nP, cP, eP⟩ : ∃ A n c, vP = .slice A n c := by obtain ⟨A, c, h⟩ := Kd.S_slice HP.out; exact ⟨A, _, c, h⟩
       subst eP
       have hcz_B3_0 : wr.cell? ⟨g3, 0, none⟩ = some (.slice AN r0.length cN) := (blk_cell B3.out 0).trans rfl
       have hfz_B3_0 := blk_frozen B3.out 0
       have hcz_B3_1 : wr.cell? ⟨g3, 1, none⟩ = some (.slice AP nP cP) := (blk_cell B3.out 1).trans rfl
       have hfz_B3_1 := blk_frozen B3.out 1
       have hcz_B2_0 : wr.cell? ⟨g2, 0, none⟩ = some (.slice none 0 0) := (blk_cell B2.out 0).trans rfl
       have hfz_B2_0 := blk_frozen B2.out 0
       have hcz_B2_1 : wr.cell? ⟨g2, 1, none⟩ = some (.slice none 0 0) := (blk_cell B2.out 1).trans rfl
       have hfz_B2_1 := blk_frozen B2.out 1
       have hnb := N23.out
       have hnc := Ne.symm N23.out
       go_wp2
       refine bodyPost_ret (results_cell_row rfl _ _ g2 52 #[.slice AN r0.length cN, .slice AP nP cP] (0, 0) _ rfl (blk_put (cs := #[.slice AN r0.length cN, .slice none 0 0]) (blk_put (cs := #[.slice none 0 0, .slice none 0 0]) B2.out 0 (.slice AN r0.length cN) rfl) 1 (.slice AP nP cP) rfl) Try.underlying52 rfl (by kernel_rfl)) rfl ?_
       exact ⟨_, _, rfl, Kd.S_mono (Kd.S_set (Kd.S_set HN.out B2.out (by decide) 0 _) (blk_put (cs := #[.slice none 0 0, .slice none 0 0]) (cs' := #[.slice AN r0.length cN, .slice none 0 0]) B2.out 0 (.slice AN r0.length cN) rfl) (by decide) 1 _) (fun k_ hk e_ => HD.out k_ hk ((Kd.S_R HP.out).1 k_ e_.symm)), by rw [← HLEN.out]; exact Kd.S_mono (Kd.S_set (Kd.S_set HP.out B2.out (by decide) 0 _) (blk_put (cs := #[.slice none 0 0, .slice none 0 0]) (cs' := #[.slice AN r0.length cN, .slice none 0 0]) B2.out 0 (.slice AN r0.length cN) rfl) (by decide) 1 _) (fun k_ hk e_ => HD.out k_ ((Kd.S_R HN.out).1 k_ e_.symm) hk), below_set (below_set HB.out GB2.out) GB2.out⟩

end Go.Proofs.Ytoedcnhgobbnfaa.All

