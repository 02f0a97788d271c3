/- Part 1 of the proof of FnCasts: functions of the translation with what they return, and plain laws of these. Written by programs of this session over the kit's print, and by hand. -/
import Derived.Test.YtkohjiajbdkcbaaDoorProg
import Derived.Test.YtkohjiajbdkcbaaDoorCFnCastsWApart
import Derived.Test.YtkohjiajbdkcbaaDoorCFnCastsWArr
import Derived.Test.YtkohjiajbdkcbaaDoorCFnCastsWFoot
import Derived.Test.YtkohjiajbdkcbaaDoorCFnCastsWGuard
import Derived.Test.YtkohjiajbdkcbaaDoorCFnCastsWKept
import Derived.Test.YtkohjiajbdkcbaaDoorCFnCastsWLast
import Derived.Test.YtkohjiajbdkcbaaDoorCFnCastsWMore
import Derived.Test.YtkohjiajbdkcbaaDoorCFnCastsWN
import Derived.Test.YtkohjiajbdkcbaaDoorCFnCastsWNEv
import Derived.Test.YtkohjiajbdkcbaaDoorCFnCastsWQPut
import Derived.Test.YtkohjiajbdkcbaaDoorCFnCastsWRepsOne
import Derived.Test.YtkohjiajbdkcbaaDoorCFnCastsWShare
import Derived.Test.YtkohjiajbdkcbaaDoorCFnCastsWTab
import Derived.Test.YtkohjiajbdkcbaaDoorCFnCastsWWords
import Derived.Test.YtkohjiajbdkcbaaDoorCFnCastsWZeros
import Derived.Below
import Derived.Deep.Draws
import Derived.Deep.AppendLies
import Derived.Maps.AppendAt
import Derived.OwnWalk
import Derived.Laws.BytesArg
import Derived.Laws.MakeOwn
import Derived.Laws.OwnMore
import Derived.Deep.OwnRows
import Derived.Tactics
import Derived.Lib.ConvBytes
import Derived.Laws.Slices
import Derived.WalkKit
import Derived.KernelRfl
import Derived.RowKit3
import Derived.Deep.LoopGhost
import Derived.Deep.QuietTactic
import Derived.BigQuiet
import Derived.WideLaws
import Derived.Deep.DeepCutAuto
import Derived.Deep.CutBlock
import Derived.Deep.RegionHeld3
import Derived.Laws.Rows
import Derived.Lib.AppendStr
import Derived.ArgAppend
import Derived.Laws.IdiomCopy
import Derived.OrdersHeld
import Derived.Laws.BitsLemmas
import Derived.RowKit
import Derived.Lib.LaidTab
import Derived.Lib.ItoaNum
import Derived.Sort.Grow
import Derived.Shelf.Strconv.Itoa4
import Derived.Shelf.LaysM
import Derived.Shelf.LaysC
import Derived.Shelf.Strconv.Itoa1
import Derived.Shelf.Strconv.ErrVarParseInt
import Derived.Shelf.Strconv.ParseIntPublic10
import Derived.Laws.BitsAllLaws
import Derived.Lib.ItoaLen
import Derived.Lib.ParseIntBCases
import Derived.Deep.Slices
import Derived.ChangeArms
import Derived.OpenShut
import Derived.Stop.LaidErr
import Derived.LaidMore
import Derived.ProofKit
import Derived.ShutString
import Derived.ChangeOld
import Derived.SizedLaws
import Derived.Deep.DeepHandedRow
import Derived.Deep.DeepWitnessRowRef
import Derived.SevenTiedAt
namespace Go.Proofs.YtkohjiajbdkcbaaDoor.All
open Go.RowKit Go.Proofs.YtkohjiajbdkcbaaDoorW.PrintWords Go.Proofs.YtkohjiajbdkcbaaDoorW.PrintLast Go.Proofs.YtkohjiajbdkcbaaDoorW.PrintMore
attribute [local go_sem] max2_int min2_int max_two min_two max_three min_three max_four min_four   -- for this text's walks alone
set_option linter.unusedVariables false
set_option linter.unusedSimpArgs false



def errW : Option Int → Value
  | none => .nilIface
  | some c => .iface 160 (.int .i64 c)
theorem errW_none : errW none = .nilIface := rfl
theorem errW_some (c : Int) : errW (some c) = .iface 160 (.int .i64 c) := rfl

-- the values' own types
/-! #### struct type 135 -/
structure S135 where
  f0 : ByteArray
  f1 : Bool
  f2 : Int
/-! #### struct type 109 -/
structure S109 where
  f0 : ByteArray
  f1 : Bool
  f2 : Int
/-! #### struct type 141 -/
structure S141 where
  f0 : ByteArray
  f1 : Int
  f2 : Bool
  f3 : Int
  f4 : (List Int)
/-! #### struct type 69 -/
structure S69 where
  f0 : Int
  f1 : Int
  f2 : Int
  f3 : Int
/-! #### struct type 202 -/
structure S202 where
  f0 : Int
  f1 : Int
  f2 : Int
  f3 : Int
  f4 : Int
  f5 : Int
  f6 : (List S69)
  f7 : (List Int)
  f8 : (List Int)
/-! #### struct type 184 -/
structure S184 where
  f0 : (List S202)
/-! #### struct type 145 -/
structure S145 where
  f0 : ByteArray
  f1 : Int
  f2 : (List Int)
  f3 : Int
  f4 : (List S184)
def z145 : S145 := ⟨(⟨#[]⟩ : ByteArray), (0 : Int), ([] : List Int), (0 : Int), ([] : List S184)⟩
/-! #### struct type 127 -/
structure S127 where
  f0 : ByteArray
  f1 : Int
  f2 : Bool
  f3 : Int
  f4 : (List Int)
def z127 : S127 := ⟨(⟨#[]⟩ : ByteArray), (0 : Int), false, (0 : Int), ([] : List Int)⟩
/-! #### struct type 77 -/
structure S77 where
  f0 : Int
  f1 : Int
  f2 : Int
  f3 : Int
/-! #### struct type 205 -/
structure S205 where
  f0 : Int
  f1 : Int
  f2 : Int
  f3 : Int
  f4 : Int
  f5 : Int
  f6 : (List S77)
  f7 : (List Int)
  f8 : (List Int)
/-! #### struct type 187 -/
structure S187 where
  f0 : (List S205)
/-! #### struct type 149 -/
structure S149 where
  f0 : ByteArray
  f1 : Int
  f2 : (List Int)
  f3 : Int
  f4 : (List S187)
end Go.Proofs.YtkohjiajbdkcbaaDoor.All


/- What the row's list of package-level variables gives, in the world of the call and in every later one. -/
namespace Go.Proofs.YtkohjiajbdkcbaaDoor.All
open Go.RowKit Go.Proofs.YtkohjiajbdkcbaaDoorW.PrintWords Go.Proofs.YtkohjiajbdkcbaaDoorW.PrintLast Go.Proofs.YtkohjiajbdkcbaaDoorW.PrintMore
set_option linter.unusedVariables false
set_option linter.unusedSimpArgs false
open Go.Sort
def LtTab (w : World) : Prop := ∀ w', Below w.heap.size w w' → Lib.TabIs Tryd.prog w' "internal/strconv.uint64pow10" .u64 Lib.pow10Tab
theorem LtTab.here {w : World} (h : LtTab w) : Lib.TabIs Tryd.prog w "internal/strconv.uint64pow10" .u64 Lib.pow10Tab := h w (Below.refl _ _)
theorem LtTab.on {w w1 : World} (h : LtTab w) (hb : Below w.heap.size w w1) : LtTab w1 := fun w' h' => h w' (hb.trans (h'.mono hb.size))
def LtErr (w : World) : Prop := ∃ tp p tq q, ∀ w', Below w.heap.size w w' → w'.var? Tryd.prog "strconv.ErrSyntax" = some #[.iface tp p] ∧ w'.var? Tryd.prog "strconv.ErrRange" = some #[.iface tq q]
theorem LtErr.on {w w1 : World} (h : LtErr w) (hb : Below w.heap.size w w1) : LtErr w1 := by
  obtain ⟨tp, p, tq, q, h⟩ := h
  exact ⟨tp, p, tq, q, fun w' h' => h w' (hb.trans (h'.mono hb.size))⟩
theorem below_grow (w : World) (q : Nat) (os : Array Obj) : Below w.heap.size w (Go.Sort.grow (w.drewN q) os) :=
  ⟨rfl, rfl, rfl, by first | (simp [Go.Sort.grow]; done) | (simp [Go.Sort.grow]; omega), fun i hi => by
    show ((w.drewN q).heap ++ os)[i]? = _
    rw [Array.getElem?_append_left (by show i < w.heap.size; omega)]
    rfl⟩
end Go.Proofs.YtkohjiajbdkcbaaDoor.All


namespace Go.Proofs.YtkohjiajbdkcbaaDoor.All
open Go.RowKit Go.Proofs.YtkohjiajbdkcbaaDoorW.PrintWords Go.Proofs.YtkohjiajbdkcbaaDoorW.PrintLast Go.Proofs.YtkohjiajbdkcbaaDoorW.PrintMore
attribute [local go_sem] max2_int min2_int max_two min_two max_three min_three max_four min_four   -- for this text's walks alone
set_option linter.unusedVariables false
set_option linter.unusedSimpArgs false

/-! ### spec_ValidWidth: function 44 -/
def spec_ValidWidth.f (a0 : Int) : Option (Bool) := if a0 = 1 then (some true) else (if a0 = 8 then (some true) else (if a0 = 16 then (some true) else (if a0 = 32 then (some true) else (some (a0 == 64)))))
set_option maxHeartbeats 8000000 in
set_option maxRecDepth 100000 in
theorem spec_ValidWidth.calls (a0 : Int) (r : Bool) (w : World) (h : spec_ValidWidth.f a0 = some r) :
 Calls Tryd.prog 44 #[.int .i64 a0] w fun e w' => e = .returned (.bool r) ∧ Drawn0 w w' := by
 have H : (if a0 = 1 then (some true) else (if a0 = 8 then (some true) else (if a0 = 16 then (some true) else (if a0 = 32 then (some true) else (some (a0 == 64)))))) = some r := h
 clear h
 by_cases c2 : a0 = 1
 · rw [if_pos c2] at H
   have c2b0 : (a0 == 1) = true := beq_iff_eq.mpr c2
   have c2b1 : (a0 != 1) = false := bne_eq_false_iff_eq.mpr c2
   clear c2
   obtain rfl := Option.some.inj H
   go_enter Tryd.func44, Tryd.ntmps44
   go_wp2
   go_ret
   exact ⟨by first | rfl | (simp; done) | (simp [*]; done), by repeat (first | exact Drawn0.refl _ | apply Drawn0.step)⟩
 · rw [if_neg c2] at H
   have c2b0 : (a0 == 1) = false := beq_eq_false_iff_ne.mpr c2
   have c2b1 : (a0 != 1) = true := bne_iff_ne.mpr c2
   by_cases c3 : a0 = 8
   · rw [if_pos c3] at H
     have c3b0 : (a0 == 8) = true := beq_iff_eq.mpr c3
     have c3b1 : (a0 != 8) = false := bne_eq_false_iff_eq.mpr c3
     clear c3
     obtain rfl := Option.some.inj H
     go_enter Tryd.func44, Tryd.ntmps44
     go_wp2
     go_ret
     exact ⟨by first | rfl | (simp; done) | (simp [*]; done), by repeat (first | exact Drawn0.refl _ | apply Drawn0.step)⟩
   · rw [if_neg c3] at H
     have c3b0 : (a0 == 8) = false := beq_eq_false_iff_ne.mpr c3
     have c3b1 : (a0 != 8) = true := bne_iff_ne.mpr c3
     by_cases c4 : a0 = 16
     · rw [if_pos c4] at H
       have c4b0 : (a0 == 16) = true := beq_iff_eq.mpr c4
       have c4b1 : (a0 != 16) = false := bne_eq_false_iff_eq.mpr c4
       clear c4
       obtain rfl := Option.some.inj H
       go_enter Tryd.func44, Tryd.ntmps44
       go_wp2
       go_ret
       exact ⟨by first | rfl | (simp; done) | (simp [*]; done), by repeat (first | exact Drawn0.refl _ | apply Drawn0.step)⟩
     · rw [if_neg c4] at H
       have c4b0 : (a0 == 16) = false := beq_eq_false_iff_ne.mpr c4
       have c4b1 : (a0 != 16) = true := bne_iff_ne.mpr c4
       by_cases c5 : a0 = 32
       · rw [if_pos c5] at H
         have c5b0 : (a0 == 32) = true := beq_iff_eq.mpr c5
         have c5b1 : (a0 != 32) = false := bne_eq_false_iff_eq.mpr c5
         clear c5
         obtain rfl := Option.some.inj H
         go_enter Tryd.func44, Tryd.ntmps44
         go_wp2
         go_ret
         exact ⟨by first | rfl | (simp; done) | (simp [*]; done), by repeat (first | exact Drawn0.refl _ | apply Drawn0.step)⟩
       · rw [if_neg c5] at H
         have c5b0 : (a0 == 32) = false := beq_eq_false_iff_ne.mpr c5
         have c5b1 : (a0 != 32) = true := bne_iff_ne.mpr c5
         obtain rfl := Option.some.inj H
         go_enter Tryd.func44, Tryd.ntmps44
         go_wp2
         go_ret
         exact ⟨by first | rfl | (simp; done) | (simp [*]; done), by repeat (first | exact Drawn0.refl _ | apply Drawn0.step)⟩

end Go.Proofs.YtkohjiajbdkcbaaDoor.All


namespace Go.Proofs.YtkohjiajbdkcbaaDoor.All
open Go.RowKit Go.Proofs.YtkohjiajbdkcbaaDoorW.PrintWords Go.Proofs.YtkohjiajbdkcbaaDoorW.PrintLast Go.Proofs.YtkohjiajbdkcbaaDoorW.PrintMore
attribute [local go_sem] max2_int min2_int max_two min_two max_three min_three max_four min_four   -- for this text's walks alone
set_option linter.unusedVariables false
set_option linter.unusedSimpArgs false

/-! ### spec_l1Mask: function 78 -/
def spec_l1Mask.f (a0 : Int) : Option (Int) := if a0 = 64 then (some 18446744073709551615) else (if 0 ≤ (IntKind.u64.wrap (a0)) then (some (IntKind.u64.wrap ((shl .u64 1 (IntKind.u64.wrap (a0))) - 1))) else (none))
set_option maxHeartbeats 8000000 in
set_option maxRecDepth 100000 in
theorem spec_l1Mask.calls (a0 : Int) (r : Int) (w : World) (h : spec_l1Mask.f a0 = some r) :
 Calls Tryd.prog 78 #[.int .i64 a0] w fun e w' => e = .returned (.int .u64 r) ∧ Drawn0 w w' := by
 have H : (if a0 = 64 then (some 18446744073709551615) else (if 0 ≤ (IntKind.u64.wrap (a0)) then (some (IntKind.u64.wrap ((shl .u64 1 (IntKind.u64.wrap (a0))) - 1))) else (none))) = some r := h
 clear h
 by_cases c2 : a0 = 64
 · rw [if_pos c2] at H
   have c2b0 : (a0 == 64) = true := beq_iff_eq.mpr c2
   have c2b1 : (a0 != 64) = false := bne_eq_false_iff_eq.mpr c2
   clear c2
   obtain rfl := Option.some.inj H
   go_enter Tryd.func78, Tryd.ntmps78
   go_wp2
   go_ret
   exact ⟨by first | rfl | (simp; done) | (simp [*]; done), by repeat (first | exact Drawn0.refl _ | apply Drawn0.step)⟩
 · rw [if_neg c2] at H
   have c2b0 : (a0 == 64) = false := beq_eq_false_iff_ne.mpr c2
   have c2b1 : (a0 != 64) = true := bne_iff_ne.mpr c2
   obtain ⟨ji3, hji3⟩ : ∃ j_ : Int, (IntKind.u64.wrap (a0)) = j_ := ⟨_, rfl⟩
   replace H : (if 0 ≤ (ji3) then (some (IntKind.u64.wrap ((shl .u64 1 (ji3)) - 1))) else (none)) = some r := by first | (rw [hji3] at H; exact H) | (simp only [hji3] at H ⊢; exact H)
   by_cases c4 : 0 ≤ (ji3)
   · rw [if_pos c4] at H
     have c4b0 := eq_true c4
     have c4b1 : decide (0 ≤ (ji3)) = true := decide_eq_true c4
     clear c4
     obtain ⟨ji5, hji5⟩ : ∃ j_ : Int, (shl .u64 1 (ji3)) = j_ := ⟨_, rfl⟩
     replace H : (some (IntKind.u64.wrap ((ji5) - 1))) = some r := by first | (rw [hji5] at H; exact H) | (simp only [hji5] at H ⊢; exact H)
     have hji5_ : (IntKind.u64.wrap (1 * 2 ^ min (ji3).toNat 64)) = ji5 := hji5
     have hji5z : (ji3) ≤ 64 → (IntKind.u64.wrap (1 * 2 ^ (ji3).toNat)) = ji5 := shl_small hji5
     have hji5u : (IntKind.u64.wrap (2 ^ min (ji3).toNat 64)) = ji5 := by have h_ := hji5_; rw [Int.one_mul] at h_; exact h_
     have hji5v : (ji3) ≤ 64 → (IntKind.u64.wrap (2 ^ (ji3).toNat)) = ji5 := fun hle_ => by have h_ := hji5z hle_; rw [Int.one_mul] at h_; exact h_
     obtain rfl := Option.some.inj H
     go_enter Tryd.func78, Tryd.ntmps78
     go_wp2
     go_ret
     exact ⟨by first | rfl | (simp; done) | (simp only [← hji3, ← hji5] <;> (first | rfl | simp)) | (simp [*]; done), by repeat (first | exact Drawn0.refl _ | apply Drawn0.step)⟩
   · rw [if_neg c4] at H
     exact absurd H (by simp)

end Go.Proofs.YtkohjiajbdkcbaaDoor.All


namespace Go.Proofs.YtkohjiajbdkcbaaDoor.All
open Go.RowKit Go.Proofs.YtkohjiajbdkcbaaDoorW.PrintWords Go.Proofs.YtkohjiajbdkcbaaDoorW.PrintLast Go.Proofs.YtkohjiajbdkcbaaDoorW.PrintMore
attribute [local go_sem] max2_int min2_int max_two min_two max_three min_three max_four min_four   -- for this text's walks alone
set_option linter.unusedVariables false
set_option linter.unusedSimpArgs false

/-! ### spec_Cut: function 45 -/
def spec_Cut.f (a0 : Int) (a1 : Int) : Option (Int) := (spec_ValidWidth.f a0).bind fun t101 => (if t101 = true then ((spec_l1Mask.f a0).bind fun t102 => (some (Go.bits .and .u64 a1 t102))) else (some 0))
set_option maxHeartbeats 8000000 in
set_option maxRecDepth 100000 in
theorem spec_Cut.calls (a0 : Int) (a1 : Int) (r : Int) (w : World) (h : spec_Cut.f a0 a1 = some r) :
 Calls Tryd.prog 45 #[.int .i64 a0, .int .u64 a1] w fun e w' => e = .returned (.int .u64 r) ∧ Drawn0 w w' := by
 have H : ((spec_ValidWidth.f a0).bind fun t101 => (if t101 = true then ((spec_l1Mask.f a0).bind fun t102 => (some (Go.bits .and .u64 a1 t102))) else (some 0))) = some r := h
 clear h
 replace H := Option.bind_eq_some_iff.mp H
 obtain ⟨t101, A30, H⟩ := H
 replace H : (if t101 = true then ((spec_l1Mask.f a0).bind fun t102 => (some (Go.bits .and .u64 a1 t102))) else (some 0)) = some r := H
 have A3 := Aside0.mk A30
 clear A30
 by_cases c4 : t101 = true
 · subst c4
   have H1 : ((spec_l1Mask.f a0).bind fun t102 => (some (Go.bits .and .u64 a1 t102))) = some r := by rw [if_pos rfl] at H; exact H
   clear H
   have H := H1
   clear H1
   replace H := Option.bind_eq_some_iff.mp H
   obtain ⟨t102, A50, H⟩ := H
   replace H : (some (Go.bits .and .u64 a1 t102)) = some r := H
   have A5 := Aside0.mk A50
   clear A50
   obtain rfl := Option.some.inj H
   go_enter Tryd.func45, Tryd.ntmps45
   go_wp2_with (first | ((with_reducible refine gate_callee (f := 44) rfl ?_); refine goesL_ (some 6) rfl rfl Tryd.func44 (by kernel_rfl) rfl #[.int .i64 a0] rfl (by (try simp only [List.map_toArray, List.map_cons, List.map_nil]); first | done | rfl | (simp only [List.length_drop, List.length_take]; rfl)) ?_; (with_reducible refine (spec_ValidWidth.calls a0 true _ A3.out).mono ?_); rintro e w' ⟨rfl, ⟨nd, rfl⟩⟩; refine ⟨_, rfl, ?_⟩) | ((with_reducible refine gate_callee (f := 78) rfl ?_); refine goesL_ (some 10) rfl rfl Tryd.func78 (by kernel_rfl) rfl #[.int .i64 a0] rfl (by (try simp only [List.map_toArray, List.map_cons, List.map_nil]); first | done | rfl | (simp only [List.length_drop, List.length_take]; rfl)) ?_; (with_reducible refine (spec_l1Mask.calls a0 t102 _ A5.out).mono ?_); rintro e w' ⟨rfl, ⟨nd, rfl⟩⟩; refine ⟨_, rfl, ?_⟩))
   go_ret
   exact ⟨by first | rfl | (simp; done) | (simp [*]; done), by repeat (first | exact Drawn0.refl _ | apply Drawn0.step)⟩
 · replace c4 := Bool.eq_false_iff.mpr c4
   subst c4
   have H1 : (some 0) = some r := by rw [if_neg (show ¬ (false = true) by decide)] at H; exact H
   clear H
   have H := H1
   clear H1
   obtain rfl := Option.some.inj H
   go_enter Tryd.func45, Tryd.ntmps45
   go_wp2_with (first | ((with_reducible refine gate_callee (f := 44) rfl ?_); refine goesL_ (some 6) rfl rfl Tryd.func44 (by kernel_rfl) rfl #[.int .i64 a0] rfl (by (try simp only [List.map_toArray, List.map_cons, List.map_nil]); first | done | rfl | (simp only [List.length_drop, List.length_take]; rfl)) ?_; (with_reducible refine (spec_ValidWidth.calls a0 false _ A3.out).mono ?_); rintro e w' ⟨rfl, ⟨nd, rfl⟩⟩; refine ⟨_, rfl, ?_⟩))
   go_ret
   exact ⟨by first | rfl | (simp; done) | (simp [*]; done), by repeat (first | exact Drawn0.refl _ | apply Drawn0.step)⟩

end Go.Proofs.YtkohjiajbdkcbaaDoor.All


namespace Go.Proofs.YtkohjiajbdkcbaaDoor.All
open Go.RowKit Go.Proofs.YtkohjiajbdkcbaaDoorW.PrintWords Go.Proofs.YtkohjiajbdkcbaaDoorW.PrintLast Go.Proofs.YtkohjiajbdkcbaaDoorW.PrintMore
attribute [local go_sem] max2_int min2_int max_two min_two max_three min_three max_four min_four   -- for this text's walks alone
set_option linter.unusedVariables false
set_option linter.unusedSimpArgs false

/-! ### spec_l1Is: function 51 -/
def spec_l1Is.f (a0 : Int) (a1 : Int) : Option (Bool) := (spec_ValidWidth.f a0).bind fun t103 => (if t103 = true then ((spec_Cut.f a0 a1).bind fun t104 => (some (a1 == t104))) else (some false))
set_option maxHeartbeats 8000000 in
set_option maxRecDepth 100000 in
theorem spec_l1Is.calls (a0 : Int) (a1 : Int) (r : Bool) (w : World) (h : spec_l1Is.f a0 a1 = some r) :
 Calls Tryd.prog 51 #[.int .i64 a0, .int .u64 a1] w fun e w' => e = .returned (.bool r) ∧ Drawn0 w w' := by
 have H : ((spec_ValidWidth.f a0).bind fun t103 => (if t103 = true then ((spec_Cut.f a0 a1).bind fun t104 => (some (a1 == t104))) else (some false))) = some r := h
 clear h
 replace H := Option.bind_eq_some_iff.mp H
 obtain ⟨t103, A30, H⟩ := H
 replace H : (if t103 = true then ((spec_Cut.f a0 a1).bind fun t104 => (some (a1 == t104))) else (some false)) = some r := H
 have A3 := Aside0.mk A30
 clear A30
 by_cases c4 : t103 = true
 · subst c4
   have H1 : ((spec_Cut.f a0 a1).bind fun t104 => (some (a1 == t104))) = some r := by rw [if_pos rfl] at H; exact H
   clear H
   have H := H1
   clear H1
   replace H := Option.bind_eq_some_iff.mp H
   obtain ⟨t104, A50, H⟩ := H
   replace H : (some (a1 == t104)) = some r := H
   have A5 := Aside0.mk A50
   clear A50
   obtain rfl := Option.some.inj H
   go_enter Tryd.func51, Tryd.ntmps51
   go_wp2_with (first | ((with_reducible refine gate_callee (f := 44) rfl ?_); refine goesL_ (some 6) rfl rfl Tryd.func44 (by kernel_rfl) rfl #[.int .i64 a0] rfl (by (try simp only [List.map_toArray, List.map_cons, List.map_nil]); first | done | rfl | (simp only [List.length_drop, List.length_take]; rfl)) ?_; (with_reducible refine (spec_ValidWidth.calls a0 true _ A3.out).mono ?_); rintro e w' ⟨rfl, ⟨nd, rfl⟩⟩; refine ⟨_, rfl, ?_⟩) | (go_at_call 45; (with_reducible refine (spec_Cut.calls a0 a1 t104 _ A5.out).mono ?_); rintro e w' ⟨rfl, ⟨nd, rfl⟩⟩))
   go_ret
   exact ⟨by first | rfl | (simp; done) | (simp [*]; done), by repeat (first | exact Drawn0.refl _ | apply Drawn0.step)⟩
 · replace c4 := Bool.eq_false_iff.mpr c4
   subst c4
   have H1 : (some false) = some r := by rw [if_neg (show ¬ (false = true) by decide)] at H; exact H
   clear H
   have H := H1
   clear H1
   obtain rfl := Option.some.inj H
   go_enter Tryd.func51, Tryd.ntmps51
   go_wp2_with (first | ((with_reducible refine gate_callee (f := 44) rfl ?_); refine goesL_ (some 6) rfl rfl Tryd.func44 (by kernel_rfl) rfl #[.int .i64 a0] rfl (by (try simp only [List.map_toArray, List.map_cons, List.map_nil]); first | done | rfl | (simp only [List.length_drop, List.length_take]; rfl)) ?_; (with_reducible refine (spec_ValidWidth.calls a0 false _ A3.out).mono ?_); rintro e w' ⟨rfl, ⟨nd, rfl⟩⟩; refine ⟨_, rfl, ?_⟩))
   go_ret
   exact ⟨by first | rfl | (simp; done) | (simp [*]; done), by repeat (first | exact Drawn0.refl _ | apply Drawn0.step)⟩

end Go.Proofs.YtkohjiajbdkcbaaDoor.All


namespace Go.Proofs.YtkohjiajbdkcbaaDoor.All
open Go.RowKit Go.Proofs.YtkohjiajbdkcbaaDoorW.PrintWords Go.Proofs.YtkohjiajbdkcbaaDoorW.PrintLast Go.Proofs.YtkohjiajbdkcbaaDoorW.PrintMore
attribute [local go_sem] max2_int min2_int max_two min_two max_three min_three max_four min_four   -- for this text's walks alone
set_option linter.unusedVariables false
set_option linter.unusedSimpArgs false

/-! ### spec_l1Top: function 82 -/
def spec_l1Top.f (a0 : Int) (a1 : Int) : Option (Bool) := if 0 ≤ (IntKind.u64.wrap (wrap64 (a0 - 1))) then (some ((shr .u64 a1 (IntKind.u64.wrap (wrap64 (a0 - 1)))) == 1)) else (none)
set_option maxHeartbeats 8000000 in
set_option maxRecDepth 100000 in
theorem spec_l1Top.calls (a0 : Int) (a1 : Int) (r : Bool) (w : World) (h : spec_l1Top.f a0 a1 = some r) :
 Calls Tryd.prog 82 #[.int .i64 a0, .int .u64 a1] w fun e w' => e = .returned (.bool r) ∧ Drawn0 w w' := by
 have H : (if 0 ≤ (IntKind.u64.wrap (wrap64 (a0 - 1))) then (some ((shr .u64 a1 (IntKind.u64.wrap (wrap64 (a0 - 1)))) == 1)) else (none)) = some r := h
 clear h
 obtain ⟨ji3, hji3⟩ : ∃ j_ : Int, (IntKind.u64.wrap (wrap64 (a0 - 1))) = j_ := ⟨_, rfl⟩
 replace H : (if 0 ≤ (ji3) then (some ((shr .u64 a1 (ji3)) == 1)) else (none)) = some r := by first | (rw [hji3] at H; exact H) | (simp only [hji3] at H ⊢; exact H)
 by_cases c4 : 0 ≤ (ji3)
 · rw [if_pos c4] at H
   have c4b0 := eq_true c4
   have c4b1 : decide (0 ≤ (ji3)) = true := decide_eq_true c4
   clear c4
   obtain ⟨ji5, hji5⟩ : ∃ j_ : Int, (shr .u64 a1 (ji3)) = j_ := ⟨_, rfl⟩
   replace H : (some ((ji5) == 1)) = some r := by first | (rw [hji5] at H; exact H) | (simp only [hji5] at H ⊢; exact H)
   have hji5_ : (a1 / 2 ^ min (ji3).toNat 64) = ji5 := hji5
   have hji5z : (ji3) ≤ 64 → (a1 / 2 ^ (ji3).toNat) = ji5 := shr_small hji5
   obtain rfl := Option.some.inj H
   go_enter Tryd.func82, Tryd.ntmps82
   go_wp2
   go_ret
   exact ⟨by first | rfl | (simp; done) | (simp only [← hji3, ← hji5] <;> (first | rfl | simp)) | (simp [*]; done), by repeat (first | exact Drawn0.refl _ | apply Drawn0.step)⟩
 · rw [if_neg c4] at H
   exact absurd H (by simp)

end Go.Proofs.YtkohjiajbdkcbaaDoor.All


namespace Go.Proofs.YtkohjiajbdkcbaaDoor.All
open Go.RowKit Go.Proofs.YtkohjiajbdkcbaaDoorW.PrintWords Go.Proofs.YtkohjiajbdkcbaaDoorW.PrintLast Go.Proofs.YtkohjiajbdkcbaaDoorW.PrintMore
attribute [local go_sem] max2_int min2_int max_two min_two max_three min_three max_four min_four   -- for this text's walks alone
set_option linter.unusedVariables false
set_option linter.unusedSimpArgs false

/-! ### spec_Signed: function 52 -/
def spec_Signed.f (a0 : Int) (a1 : Int) : Option (Int) := (spec_l1Is.f a0 a1).bind fun t105 => (if t105 = true then ((spec_l1Top.f a0 a1).bind fun t106 => (if t106 = true then ((spec_l1Mask.f a0).bind fun t107 => (some (wrap64 (Go.bits .or .u64 a1 (Go.bits .xor .u64 18446744073709551615 t107))))) else (some (wrap64 (a1))))) else (some 0))
set_option maxHeartbeats 8000000 in
set_option maxRecDepth 100000 in
theorem spec_Signed.calls (a0 : Int) (a1 : Int) (r : Int) (w : World) (h : spec_Signed.f a0 a1 = some r) :
 Calls Tryd.prog 52 #[.int .i64 a0, .int .u64 a1] w fun e w' => e = .returned (.int .i64 r) ∧ Drawn0 w w' := by
 have H : ((spec_l1Is.f a0 a1).bind fun t105 => (if t105 = true then ((spec_l1Top.f a0 a1).bind fun t106 => (if t106 = true then ((spec_l1Mask.f a0).bind fun t107 => (some (wrap64 (Go.bits .or .u64 a1 (Go.bits .xor .u64 18446744073709551615 t107))))) else (some (wrap64 (a1))))) else (some 0))) = some r := h
 clear h
 replace H := Option.bind_eq_some_iff.mp H
 obtain ⟨t105, A30, H⟩ := H
 replace H : (if t105 = true then ((spec_l1Top.f a0 a1).bind fun t106 => (if t106 = true then ((spec_l1Mask.f a0).bind fun t107 => (some (wrap64 (Go.bits .or .u64 a1 (Go.bits .xor .u64 18446744073709551615 t107))))) else (some (wrap64 (a1))))) else (some 0)) = some r := H
 have A3 := Aside0.mk A30
 clear A30
 by_cases c4 : t105 = true
 · subst c4
   have H1 : ((spec_l1Top.f a0 a1).bind fun t106 => (if t106 = true then ((spec_l1Mask.f a0).bind fun t107 => (some (wrap64 (Go.bits .or .u64 a1 (Go.bits .xor .u64 18446744073709551615 t107))))) else (some (wrap64 (a1))))) = some r := by rw [if_pos rfl] at H; exact H
   clear H
   have H := H1
   clear H1
   replace H := Option.bind_eq_some_iff.mp H
   obtain ⟨t106, A50, H⟩ := H
   replace H : (if t106 = true then ((spec_l1Mask.f a0).bind fun t107 => (some (wrap64 (Go.bits .or .u64 a1 (Go.bits .xor .u64 18446744073709551615 t107))))) else (some (wrap64 (a1)))) = some r := H
   have A5 := Aside0.mk A50
   clear A50
   by_cases c6 : t106 = true
   · subst c6
     have H1 : ((spec_l1Mask.f a0).bind fun t107 => (some (wrap64 (Go.bits .or .u64 a1 (Go.bits .xor .u64 18446744073709551615 t107))))) = some r := by rw [if_pos rfl] at H; exact H
     clear H
     have H := H1
     clear H1
     replace H := Option.bind_eq_some_iff.mp H
     obtain ⟨t107, A70, H⟩ := H
     replace H : (some (wrap64 (Go.bits .or .u64 a1 (Go.bits .xor .u64 18446744073709551615 t107)))) = some r := H
     have A7 := Aside0.mk A70
     clear A70
     obtain rfl := Option.some.inj H
     go_enter Tryd.func52, Tryd.ntmps52
     go_wp2_with (first | ((with_reducible refine gate_callee (f := 51) rfl ?_); refine goesL_ (some 7) rfl rfl Tryd.func51 (by kernel_rfl) rfl #[.int .i64 a0, .int .u64 a1] rfl (by (try simp only [List.map_toArray, List.map_cons, List.map_nil]); first | done | rfl | (simp only [List.length_drop, List.length_take]; rfl)) ?_; (with_reducible refine (spec_l1Is.calls a0 a1 true _ A3.out).mono ?_); rintro e w' ⟨rfl, ⟨nd, rfl⟩⟩; refine ⟨_, rfl, ?_⟩) | ((with_reducible refine gate_callee (f := 82) rfl ?_); refine goesL_ (some 11) rfl rfl Tryd.func82 (by kernel_rfl) rfl #[.int .i64 a0, .int .u64 a1] rfl (by (try simp only [List.map_toArray, List.map_cons, List.map_nil]); first | done | rfl | (simp only [List.length_drop, List.length_take]; rfl)) ?_; (with_reducible refine (spec_l1Top.calls a0 a1 true _ A5.out).mono ?_); rintro e w' ⟨rfl, ⟨nd, rfl⟩⟩; refine ⟨_, rfl, ?_⟩) | ((with_reducible refine gate_callee (f := 78) rfl ?_); refine goesL_ (some 14) rfl rfl Tryd.func78 (by kernel_rfl) rfl #[.int .i64 a0] rfl (by (try simp only [List.map_toArray, List.map_cons, List.map_nil]); first | done | rfl | (simp only [List.length_drop, List.length_take]; rfl)) ?_; (with_reducible refine (spec_l1Mask.calls a0 t107 _ A7.out).mono ?_); rintro e w' ⟨rfl, ⟨nd, rfl⟩⟩; refine ⟨_, rfl, ?_⟩))
     go_ret
     exact ⟨by first | rfl | (simp; done) | (simp [*]; done), by repeat (first | exact Drawn0.refl _ | apply Drawn0.step)⟩
   · replace c6 := Bool.eq_false_iff.mpr c6
     subst c6
     have H1 : (some (wrap64 (a1))) = some r := by rw [if_neg (show ¬ (false = true) by decide)] at H; exact H
     clear H
     have H := H1
     clear H1
     obtain rfl := Option.some.inj H
     go_enter Tryd.func52, Tryd.ntmps52
     go_wp2_with (first | ((with_reducible refine gate_callee (f := 51) rfl ?_); refine goesL_ (some 7) rfl rfl Tryd.func51 (by kernel_rfl) rfl #[.int .i64 a0, .int .u64 a1] rfl (by (try simp only [List.map_toArray, List.map_cons, List.map_nil]); first | done | rfl | (simp only [List.length_drop, List.length_take]; rfl)) ?_; (with_reducible refine (spec_l1Is.calls a0 a1 true _ A3.out).mono ?_); rintro e w' ⟨rfl, ⟨nd, rfl⟩⟩; refine ⟨_, rfl, ?_⟩) | ((with_reducible refine gate_callee (f := 82) rfl ?_); refine goesL_ (some 11) rfl rfl Tryd.func82 (by kernel_rfl) rfl #[.int .i64 a0, .int .u64 a1] rfl (by (try simp only [List.map_toArray, List.map_cons, List.map_nil]); first | done | rfl | (simp only [List.length_drop, List.length_take]; rfl)) ?_; (with_reducible refine (spec_l1Top.calls a0 a1 false _ A5.out).mono ?_); rintro e w' ⟨rfl, ⟨nd, rfl⟩⟩; refine ⟨_, rfl, ?_⟩))
     go_ret
     exact ⟨by first | rfl | (simp; done) | (simp [*]; done), by repeat (first | exact Drawn0.refl _ | apply Drawn0.step)⟩
 · replace c4 := Bool.eq_false_iff.mpr c4
   subst c4
   have H1 : (some 0) = some r := by rw [if_neg (show ¬ (false = true) by decide)] at H; exact H
   clear H
   have H := H1
   clear H1
   obtain rfl := Option.some.inj H
   go_enter Tryd.func52, Tryd.ntmps52
   go_wp2_with (first | ((with_reducible refine gate_callee (f := 51) rfl ?_); refine goesL_ (some 7) rfl rfl Tryd.func51 (by kernel_rfl) rfl #[.int .i64 a0, .int .u64 a1] rfl (by (try simp only [List.map_toArray, List.map_cons, List.map_nil]); first | done | rfl | (simp only [List.length_drop, List.length_take]; rfl)) ?_; (with_reducible refine (spec_l1Is.calls a0 a1 false _ A3.out).mono ?_); rintro e w' ⟨rfl, ⟨nd, rfl⟩⟩; refine ⟨_, rfl, ?_⟩))
   go_ret
   exact ⟨by first | rfl | (simp; done) | (simp [*]; done), by repeat (first | exact Drawn0.refl _ | apply Drawn0.step)⟩

end Go.Proofs.YtkohjiajbdkcbaaDoor.All


namespace Go.Proofs.YtkohjiajbdkcbaaDoor.All
open Go.RowKit Go.Proofs.YtkohjiajbdkcbaaDoorW.PrintWords Go.Proofs.YtkohjiajbdkcbaaDoorW.PrintLast Go.Proofs.YtkohjiajbdkcbaaDoorW.PrintMore
attribute [local go_sem] max2_int min2_int max_two min_two max_three min_three max_four min_four   -- for this text's walks alone
set_option linter.unusedVariables false
set_option linter.unusedSimpArgs false

/-! ### spec_l1Decimal: function 53 -/
def spec_l1Decimal.f : Nat → Int → Option (ByteArray)
 | 0, _ => none
 | k + 1, a0 => if a0 < 10 then (some (strOfNums (([(IntKind.u64.wrap (48 + a0)) % 256] : List Int)))) else ((spec_l1Decimal.f k (IntKind.u64.wrap (Int.tdiv a0 10))).bind fun t111 => ((some (([(IntKind.u64.wrap (48 + (Int.tmod a0 10))) % 256] : List Int) : List Int)).bind fun y112 => (if t111.size + (strOfNums y112).size ≤ 9223372036854775807 then (some (t111 ++ (strOfNums y112))) else (none))))
def spec_l1Decimal.T3 : Bool × List (List Nat × List Nat) := (true, [([], []), ([0], [0]), ([1], [1]), ([], []), ([3], [3]), ([4], [4]), ([5], [5]), ([6], [6]), ([7], [7]), ([2, 8], [2, 8]), ([9, 2, 0, 1, 2, 3, 4, 5, 6, 7, 8, 9], [9])])
def spec_l1Decimal.B3 : List Nat := [0, 1, 3, 0, 8, 24, 56, 120, 248, 511, 1023]
theorem spec_l1Decimal.tab3 : rtab .any (opsOf Tryd.f53 3) = spec_l1Decimal.T3 := by kernel_rfl
theorem spec_l1Decimal.bits3 : waitsOk spec_l1Decimal.T3.2 spec_l1Decimal.B3 = true := by kernel_rfl
set_option maxHeartbeats 8000000 in
set_option maxRecDepth 100000 in
theorem spec_l1Decimal.calls (k : Nat) : ∀ (a0 : Int) (r : ByteArray) (w : World) (h : spec_l1Decimal.f k a0 = some r),
 Calls Tryd.prog 53 #[.int .u64 a0] w fun e w' => e = .returned (.string r) ∧ Below w.heap.size w w' := by
 induction k using Nat.strongRecOn with
 | _ k ih =>
 intro a0 r w h
 cases k with
 | zero => exact absurd h (by simp [spec_l1Decimal.f])
 | succ k =>
 simp only [spec_l1Decimal.f] at h
 have HB := Aside0.mk (Below.refl w.heap.size w)
 have H : (if a0 < 10 then (some (strOfNums (([(IntKind.u64.wrap (48 + a0)) % 256] : List Int)))) else ((spec_l1Decimal.f k (IntKind.u64.wrap (Int.tdiv a0 10))).bind fun t111 => ((some (([(IntKind.u64.wrap (48 + (Int.tmod a0 10))) % 256] : List Int) : List Int)).bind fun y112 => (if t111.size + (strOfNums y112).size ≤ 9223372036854775807 then (some (t111 ++ (strOfNums y112))) else (none))))) = some r := h
 clear h
 by_cases c2 : a0 < 10
 · rw [if_pos c2] at H
   have c2b0 : decide (a0 < 10) = true := decide_eq_true c2
   clear c2
   obtain ⟨y108, hy108⟩ : ∃ y_ : List Int, y_ = (([(IntKind.u64.wrap (48 + a0)) % 256] : List Int)) := ⟨_, rfl⟩
   replace H : (some (strOfNums y108)) = some r := by first | (rw [hy108]; with_reducible exact H) | (have H2_ := (Option.bind_some _ _).symm.trans H; rw [hy108]; with_reducible exact H2_) | (have H2_ := (Option.bind_some _ _).symm.trans H; with_reducible exact H2_) | with_reducible exact H | (rw [hy108]; exact H) | exact H
   have Ny108 := Aside0.mk hy108
   clear hy108
   obtain rfl := Option.some.inj H
   go_enter Tryd.func53, Tryd.ntmps53
   go_wp2_with (first | ((with_reducible refine gate_dst (N := 8) rfl ?_); refine Kd.R_lit (Kd.int .u8) _ 5 ?hg (N := 8) ?hd (xs := ([(IntKind.u64.wrap (48 + a0)) % 256] : List Int)) (inner := [.int .u8 ((IntKind.u64.wrap (48 + a0)) % 256)]) (ok := fun _ => True) (okp := fun _ => True) ?hr ?hp (fun _ hk => hk) trivial (Below.refl _ _) (Nat.le_refl _) (by simp) ?_; (case hd => rfl); (case hg => rfl); (case hr => first | (go_simp; done) | (go_simp; rfl)); (case hp => exact (Reps.one (show Kd.M (Kd.int .u8) _ _ _ ((IntKind.u64.wrap (48 + a0)) % 256) [.int .u8 ((IntKind.u64.wrap (48 + a0)) % 256)] from rfl) (Reps.none _ _))); intro v109 w3 ho4 hb hg_ hnew_; clear hg_ hnew_; (first | rw [← Ny108.out] at ho4 | (simp only [Int.reduceToNat] at ho4; rw [← Ny108.out] at ho4)); have n0_ := Aside0.mk (Kd.R_lower ho4 (below_size (by repeat (first | (with_reducible first | exact HB.out | apply below_alloc | apply pw_below_drewN | apply below_drew1) | exact HB.out)))); have n1_ := Aside0.mk (below_step (by repeat (first | (with_reducible first | exact HB.out | apply below_alloc | apply pw_below_drewN | apply below_drew1) | exact HB.out)) hb); clear HB; have HO110 := n0_; have HB := n1_; clear n0_ n1_; clear hb ho4; have hcv5 := own_string (P := Tryd.prog) Tryd.underlying41 Tryd.underlying5 Tryd.underlying9 (Kd.own_of_R HO110.out)))
   go_ret
   exact ⟨by first | rfl | (simp [errW_none, errW_some] <;> rfl) | (simp [*, errW_none, errW_some] <;> rfl), by repeat (first | (with_reducible first | exact HB.out | apply below_alloc | apply pw_below_drewN | apply below_drew1) | exact HB.out)⟩
 · rw [if_neg c2] at H
   have c2b0 : decide (a0 < 10) = false := decide_eq_false c2
   clear c2
   replace H := Option.bind_eq_some_iff.mp H
   obtain ⟨t111, A60, H⟩ := H
   replace H : ((some (([(IntKind.u64.wrap (48 + (Int.tmod a0 10))) % 256] : List Int) : List Int)).bind fun y112 => (if t111.size + (strOfNums y112).size ≤ 9223372036854775807 then (some (t111 ++ (strOfNums y112))) else (none))) = some r := H
   have A6 := Aside0.mk A60
   clear A60
   obtain ⟨y112, hy112⟩ : ∃ y_ : List Int, y_ = (([(IntKind.u64.wrap (48 + (Int.tmod a0 10))) % 256] : List Int)) := ⟨_, rfl⟩
   replace H : (if t111.size + (strOfNums y112).size ≤ 9223372036854775807 then (some (t111 ++ (strOfNums y112))) else (none)) = some r := by first | (rw [hy112]; with_reducible exact H) | (have H2_ := (Option.bind_some _ _).symm.trans H; rw [hy112]; with_reducible exact H2_) | (have H2_ := (Option.bind_some _ _).symm.trans H; with_reducible exact H2_) | with_reducible exact H | (rw [hy112]; exact H) | exact H
   have Ny112 := Aside0.mk hy112
   clear hy112
   by_cases c7 : t111.size + (strOfNums y112).size ≤ 9223372036854775807
   · rw [if_pos c7] at H
     have c7b0 := eq_true c7
     have c7b1 : decide (t111.size + (strOfNums y112).size ≤ 9223372036854775807) = true := decide_eq_true c7
     try have c7b2 : (9223372036854775807 < t111.size + (strOfNums y112).size) = False := eq_false (Nat.not_lt.2 c7)
     obtain rfl := Option.some.inj H
     go_enter Tryd.func53, Tryd.ntmps53
     try go_wp2
     have n0_ := Aside0.mk (below_drew1 HB.out)
     clear HB
     have HB := n0_
     clear n0_
     refine start_ (n := 11) (S := fun w' => True) (ds := []) #[false, false, false, false, false, false, false, false, false, false, false] (by kernel_rfl) rfl rfl trivial (fun hHeld => ?_); refine with_tabW spec_l1Decimal.tab3 spec_l1Decimal.bits3 (fun HT_ HW_ => ?_)
     generalize w.drew = w8 at HB hHeld ⊢
     refine pure_ (i := 0) (N := some 10) (v := ?_) (a' := ?_) #[true, false, false, false, false, false, false, false, false, false, false] rfl rfl (any_of HT_.out (by kernel_rfl)) (fun _ _ _ h => h) (Or.inl ⟨by rfl, ?_⟩) ?_ ?_
     rotate_left
     · intro w'
       go_simp
       with_reducible rfl
     rotate_left
     · simp only [Act.put, List.setIfInBounds_toArray, List.set_cons_zero, List.set_cons_succ, i64_w, i32_w]
       rfl
     refine pure_ (i := 1) (N := some 11) (v := ?_) (a' := ?_) #[true, true, false, false, false, false, false, false, false, false, false] rfl rfl (any_of HT_.out (by kernel_rfl)) (fun _ _ _ h => h) (Or.inl ⟨by rfl, ?_⟩) ?_ ?_
     rotate_left
     · intro w'
       go_simp
       with_reducible rfl
     rotate_left
     · simp only [Act.put, List.setIfInBounds_toArray, List.set_cons_zero, List.set_cons_succ, i64_w, i32_w]
       rfl
     refine pure_ (i := 3) (N := some 13) (v := ?_) (a' := ?_) #[true, true, false, true, false, false, false, false, false, false, false] rfl rfl (any_of HT_.out (by kernel_rfl)) (fun _ _ _ h => h) (Or.inl ⟨by rfl, ?_⟩) ?_ ?_
     rotate_left
     · intro w'
       go_simp
       with_reducible rfl
     rotate_left
     · simp only [Act.put, List.setIfInBounds_toArray, List.set_cons_zero, List.set_cons_succ, i64_w, i32_w]
       rfl
     refine pure_ (i := 4) (N := some 14) (v := ?_) (a' := ?_) #[true, true, false, true, true, false, false, false, false, false, false] rfl rfl (any_of HT_.out (by kernel_rfl)) (fun _ _ _ h => h) (Or.inl ⟨by rfl, ?_⟩) ?_ ?_
     rotate_left
     · intro w'
       go_simp
       with_reducible rfl
     rotate_left
     · simp only [Act.put, List.setIfInBounds_toArray, List.set_cons_zero, List.set_cons_succ, i64_w, i32_w]
       rfl
     refine pure_ (i := 5) (N := some 15) (v := ?_) (a' := ?_) #[true, true, false, true, true, true, false, false, false, false, false] rfl rfl (any_of HT_.out (by kernel_rfl)) (fun _ _ _ h => h) (Or.inl ⟨by rfl, ?_⟩) ?_ ?_
     rotate_left
     · intro w'
       go_simp
       with_reducible rfl
     rotate_left
     · simp only [Act.put, List.setIfInBounds_toArray, List.set_cons_zero, List.set_cons_succ, i64_w, i32_w]
       rfl
     refine pure_ (i := 6) (N := some 16) (v := ?_) (a' := ?_) #[true, true, false, true, true, true, true, false, false, false, false] rfl rfl (any_of HT_.out (by kernel_rfl)) (fun _ _ _ h => h) (Or.inl ⟨by rfl, ?_⟩) ?_ ?_
     rotate_left
     · intro w'
       go_simp
       with_reducible rfl
     rotate_left
     · simp only [Act.put, List.setIfInBounds_toArray, List.set_cons_zero, List.set_cons_succ, i64_w, i32_w]
       rfl
     refine join_ (σ := Value) 2 #[true, true, true, true, true, true, true, true, true, false, false] (fun s_ => [(12, .string t111), (17, s_), (18, .string (strOfNums y112))]) (fun s_ w' => (Kd.R (Kd.int .u8) 5 w' w.heap.size (fun _ => True) s_ y112) ∧ (Below w.heap.size w w')) ?_ ?_
     rotate_left
     · intro hCont
       refine two_ (i := 2) (j := 7) (Ni := some 12) (Nj := some 17) #[true, true, true, true, true, true, true, false, false, false, false] #[true, true, false, true, true, true, true, true, false, false, false] rfl rfl rfl rfl (two_of HT_.out (by kernel_rfl)) (by decide) (by decide) (fun K hK => ?_) (fun K hK => ?_)
       · skip
         refine goes_ Tryd.func53 (by kernel_rfl) rfl #[.int .u64 (IntKind.u64.wrap (Int.tdiv a0 10))] (by rfl) rfl rfl (by (try simp only [List.map_toArray, List.map_cons, List.map_nil]); first | done | rfl | (simp only [List.length_drop, List.length_take]; rfl)) ?_
         with_reducible refine (ih k (by omega) (IntKind.u64.wrap (Int.tdiv a0 10)) t111 _ A6.out).mono ?_
         rintro e w9 ⟨rfl, hb⟩
         refine ⟨_, rfl, ?_⟩
         have n0_ := Aside0.mk (below_step (by repeat (first | (with_reducible first | exact HB.out | apply below_alloc | apply pw_below_drewN | apply below_drew1) | exact HB.out)) hb)
         clear HB
         have HB := n0_
         clear n0_
         (try clear hb)
         (try clear hb2)
         (try clear hk)
         (try clear hi)
         refine hK.out _ _ trivial (fun hHeld => ?_)
         clear hK K
         refine norm_ (a' := ?_) ?_ ?_
         rotate_left
         · show Act.put _ (some 12) _ = _
           simp only [Act.put, List.setIfInBounds_toArray, List.set_cons_zero, List.set_cons_succ, i64_w, i32_w]
           rfl
         refine one_ (i := 7) (N := some 17) #[true, true, true, true, true, true, true, true, false, false, false] rfl rfl (one_of HT_.out (by kernel_rfl)) (by decide) (fun K hK => ?_)
         refine Kd.R_lit_step (Kd.int .u8) _ 5 ?hg (N := 17) ?hd (xs := ([(IntKind.u64.wrap (48 + (Int.tmod a0 10))) % 256] : List Int)) (inner := [.int .u8 ((IntKind.u64.wrap (48 + (Int.tmod a0 10))) % 256)]) (ok := fun _ => True) (okp := fun _ => True) ?hr ?hp (fun _ hk => hk) trivial (Below.refl _ _) (Nat.le_refl _) (by simp) ?_; (case hd => rfl); (case hg => rfl); (case hr => first | (go_simp; done) | (go_simp; rfl)); (case hp => exact (Reps.one (show Kd.M (Kd.int .u8) _ _ _ ((IntKind.u64.wrap (48 + (Int.tmod a0 10))) % 256) [.int .u8 ((IntKind.u64.wrap (48 + (Int.tmod a0 10))) % 256)] from rfl) (Reps.none _ _)))
         intro v113 w10 ho11 hb hg_ hnew_
         clear hg_ hnew_
         (first | rw [← Ny112.out] at ho11 | (simp only [Int.reduceToNat] at ho11; rw [← Ny112.out] at ho11))
         have n0_ := Aside0.mk (Kd.R_lower ho11 (below_size (by repeat (first | (with_reducible first | exact HB.out | apply below_alloc | apply pw_below_drewN | apply below_drew1) | exact HB.out))))
         have n1_ := Aside0.mk (below_step (by repeat (first | (with_reducible first | exact HB.out | apply below_alloc | apply pw_below_drewN | apply below_drew1) | exact HB.out)) hb)
         clear HB
         have HO114 := n0_
         have HB := n1_
         clear n0_ n1_
         clear hb ho11
         refine hK.out _ _ trivial (fun hHeld => ?_)
         clear hK K
         refine norm_ (a' := ?_) ?_ ?_
         rotate_left
         · show Act.put _ (some 17) _ = _
           simp only [Act.put, List.setIfInBounds_toArray, List.set_cons_zero, List.set_cons_succ, i64_w, i32_w]
           rfl
         refine one_ (i := 8) (N := some 18) #[true, true, true, true, true, true, true, true, true, false, false] rfl rfl (one_of HT_.out (by kernel_rfl)) (by decide) (fun K hK => ?_)
         have hcv12 := own_string (P := Tryd.prog) Tryd.underlying41 Tryd.underlying5 Tryd.underlying9 (Kd.own_of_R HO114.out)
         refine value_ (w1 := ?_) (v := ?_) (by rfl) rfl ?_ ?_
         rotate_left 2
         · go_simp
           constructor
           · rfl
           · rfl
         clear hcv12
         refine hK.out _ _ trivial (fun hHeld => ?_)
         clear hK K
         refine norm_ (a' := ?_) ?_ ?_
         rotate_left
         · show Act.put _ (some 18) _ = _
           simp only [Act.put, List.setIfInBounds_toArray, List.set_cons_zero, List.set_cons_succ, i64_w, i32_w]
           rfl
         exact norm_ (by simp only [putAll, Act.put, List.setIfInBounds_toArray, List.set_cons_zero, List.set_cons_succ]) (hCont (v113) _ ⟨(by (with_reducible repeat (first | apply Kd.R_alloc | apply Kd.R_drewN | apply Kd.R_drew)); exact HO114.out), (by repeat (first | (with_reducible first | exact HB.out | apply below_alloc | apply pw_below_drewN | apply below_drew1) | exact HB.out))⟩)
       · skip
         refine Kd.R_lit_step (Kd.int .u8) _ 5 ?hg (N := 17) ?hd (xs := ([(IntKind.u64.wrap (48 + (Int.tmod a0 10))) % 256] : List Int)) (inner := [.int .u8 ((IntKind.u64.wrap (48 + (Int.tmod a0 10))) % 256)]) (ok := fun _ => True) (okp := fun _ => True) ?hr ?hp (fun _ hk => hk) trivial (Below.refl _ _) (Nat.le_refl _) (by simp) ?_; (case hd => rfl); (case hg => rfl); (case hr => first | (go_simp; done) | (go_simp; rfl)); (case hp => exact (Reps.one (show Kd.M (Kd.int .u8) _ _ _ ((IntKind.u64.wrap (48 + (Int.tmod a0 10))) % 256) [.int .u8 ((IntKind.u64.wrap (48 + (Int.tmod a0 10))) % 256)] from rfl) (Reps.none _ _)))
         intro v113 w9 ho10 hb hg_ hnew_
         clear hg_ hnew_
         (first | rw [← Ny112.out] at ho10 | (simp only [Int.reduceToNat] at ho10; rw [← Ny112.out] at ho10))
         have n0_ := Aside0.mk (Kd.R_lower ho10 (below_size (by repeat (first | (with_reducible first | exact HB.out | apply below_alloc | apply pw_below_drewN | apply below_drew1) | exact HB.out))))
         have n1_ := Aside0.mk (below_step (by repeat (first | (with_reducible first | exact HB.out | apply below_alloc | apply pw_below_drewN | apply below_drew1) | exact HB.out)) hb)
         clear HB
         have HO114 := n0_
         have HB := n1_
         clear n0_ n1_
         clear hb ho10
         refine hK.out _ _ trivial (fun hHeld => ?_)
         clear hK K
         refine norm_ (a' := ?_) ?_ ?_
         rotate_left
         · show Act.put _ (some 17) _ = _
           simp only [Act.put, List.setIfInBounds_toArray, List.set_cons_zero, List.set_cons_succ, i64_w, i32_w]
           rfl
         refine two_ (i := 2) (j := 8) (Ni := some 12) (Nj := some 18) #[true, true, true, true, true, true, true, true, false, false, false] #[true, true, false, true, true, true, true, true, true, false, false] rfl rfl rfl rfl (two_of HT_.out (by kernel_rfl)) (by decide) (by decide) (fun K hK => ?_) (fun K hK => ?_)
         · skip
           refine goes_ Tryd.func53 (by kernel_rfl) rfl #[.int .u64 (IntKind.u64.wrap (Int.tdiv a0 10))] (by rfl) rfl rfl (by (try simp only [List.map_toArray, List.map_cons, List.map_nil]); first | done | rfl | (simp only [List.length_drop, List.length_take]; rfl)) ?_
           with_reducible refine (ih k (by omega) (IntKind.u64.wrap (Int.tdiv a0 10)) t111 _ A6.out).mono ?_
           rintro e w11 ⟨rfl, hb⟩
           refine ⟨_, rfl, ?_⟩
           have n0_ := Aside0.mk (Kd.R_below (by (with_reducible repeat (first | apply Kd.R_alloc | apply Kd.R_drewN | apply Kd.R_drew)); exact HO114.out) hb)
           have n1_ := Aside0.mk (below_step (by repeat (first | (with_reducible first | exact HB.out | apply below_alloc | apply pw_below_drewN | apply below_drew1) | exact HB.out)) hb)
           clear HO114
           clear HB
           have HO114 := n0_
           have HB := n1_
           clear n0_ n1_
           (try clear hb)
           (try clear hb2)
           (try clear hk)
           (try clear hi)
           refine hK.out _ _ trivial (fun hHeld => ?_)
           clear hK K
           refine norm_ (a' := ?_) ?_ ?_
           rotate_left
           · show Act.put _ (some 12) _ = _
             simp only [Act.put, List.setIfInBounds_toArray, List.set_cons_zero, List.set_cons_succ, i64_w, i32_w]
             rfl
           refine one_ (i := 8) (N := some 18) #[true, true, true, true, true, true, true, true, true, false, false] rfl rfl (one_of HT_.out (by kernel_rfl)) (by decide) (fun K hK => ?_)
           have hcv12 := own_string (P := Tryd.prog) Tryd.underlying41 Tryd.underlying5 Tryd.underlying9 (Kd.own_of_R HO114.out)
           refine value_ (w1 := ?_) (v := ?_) (by rfl) rfl ?_ ?_
           rotate_left 2
           · go_simp
             constructor
             · rfl
             · rfl
           clear hcv12
           refine hK.out _ _ trivial (fun hHeld => ?_)
           clear hK K
           refine norm_ (a' := ?_) ?_ ?_
           rotate_left
           · show Act.put _ (some 18) _ = _
             simp only [Act.put, List.setIfInBounds_toArray, List.set_cons_zero, List.set_cons_succ, i64_w, i32_w]
             rfl
           exact norm_ (by simp only [putAll, Act.put, List.setIfInBounds_toArray, List.set_cons_zero, List.set_cons_succ]) (hCont (v113) _ ⟨(by (with_reducible repeat (first | apply Kd.R_alloc | apply Kd.R_drewN | apply Kd.R_drew)); exact HO114.out), (by repeat (first | (with_reducible first | exact HB.out | apply below_alloc | apply pw_below_drewN | apply below_drew1) | exact HB.out))⟩)
         · skip
           have hcv11 := own_string (P := Tryd.prog) Tryd.underlying41 Tryd.underlying5 Tryd.underlying9 (Kd.own_of_R HO114.out)
           refine value_ (w1 := ?_) (v := ?_) (by rfl) rfl ?_ ?_
           rotate_left 2
           · go_simp
             constructor
             · rfl
             · rfl
           clear hcv11
           refine hK.out _ _ trivial (fun hHeld => ?_)
           clear hK K
           refine norm_ (a' := ?_) ?_ ?_
           rotate_left
           · show Act.put _ (some 18) _ = _
             simp only [Act.put, List.setIfInBounds_toArray, List.set_cons_zero, List.set_cons_succ, i64_w, i32_w]
             rfl
           refine one_ (i := 2) (N := some 12) #[true, true, true, true, true, true, true, true, true, false, false] rfl rfl (one_of HT_.out (by kernel_rfl)) (by decide) (fun K hK => ?_)
           refine goes_ Tryd.func53 (by kernel_rfl) rfl #[.int .u64 (IntKind.u64.wrap (Int.tdiv a0 10))] (by rfl) rfl rfl (by (try simp only [List.map_toArray, List.map_cons, List.map_nil]); first | done | rfl | (simp only [List.length_drop, List.length_take]; rfl)) ?_
           with_reducible refine (ih k (by omega) (IntKind.u64.wrap (Int.tdiv a0 10)) t111 _ A6.out).mono ?_
           rintro e w12 ⟨rfl, hb⟩
           refine ⟨_, rfl, ?_⟩
           have n0_ := Aside0.mk (Kd.R_below (by (with_reducible repeat (first | apply Kd.R_alloc | apply Kd.R_drewN | apply Kd.R_drew)); exact HO114.out) hb)
           have n1_ := Aside0.mk (below_step (by repeat (first | (with_reducible first | exact HB.out | apply below_alloc | apply pw_below_drewN | apply below_drew1) | exact HB.out)) hb)
           clear HO114
           clear HB
           have HO114 := n0_
           have HB := n1_
           clear n0_ n1_
           (try clear hb)
           (try clear hb2)
           (try clear hk)
           (try clear hi)
           refine hK.out _ _ trivial (fun hHeld => ?_)
           clear hK K
           refine norm_ (a' := ?_) ?_ ?_
           rotate_left
           · show Act.put _ (some 12) _ = _
             simp only [Act.put, List.setIfInBounds_toArray, List.set_cons_zero, List.set_cons_succ, i64_w, i32_w]
             rfl
           exact norm_ (by simp only [putAll, Act.put, List.setIfInBounds_toArray, List.set_cons_zero, List.set_cons_succ]) (hCont (v113) _ ⟨(by (with_reducible repeat (first | apply Kd.R_alloc | apply Kd.R_drewN | apply Kd.R_drew)); exact HO114.out), (by repeat (first | (with_reducible first | exact HB.out | apply below_alloc | apply pw_below_drewN | apply below_drew1) | exact HB.out))⟩)
     rintro v113 w13 ⟨h0_, h1_⟩
     have n0_ : Aside0 (Kd.R (Kd.int .u8) 5 w13 w.heap.size (fun _ => True) v113 y112) := ⟨h0_⟩
     have n1_ : Aside0 (Below w.heap.size w w13) := ⟨h1_⟩
     clear HB
     clear h0_ h1_
     have HO114 := n0_
     have HB := n1_
     clear n0_ n1_
     have hHeld := trivial
     refine norm_ (a' := ?_) ?_ ?_
     rotate_left
     · simp only [putAll, Act.put, List.setIfInBounds_toArray, List.set_cons_zero, List.set_cons_succ]
       rfl
     refine pure_ (i := 9) (N := some 19) (v := ?_) (a' := ?_) #[true, true, true, true, true, true, true, true, true, true, false] rfl rfl (any_of HT_.out (by kernel_rfl)) (fun _ _ _ h => h) (Or.inl ⟨by rfl, ?_⟩) ?_ ?_
     rotate_left
     · intro w'
       go_simp
       with_reducible rfl
     rotate_left
     · simp only [Act.put, List.setIfInBounds_toArray, List.set_cons_zero, List.set_cons_succ, i64_w, i32_w]
       rfl
     refine pure_ (i := 10) (N := some 2) (v := ?_) (a' := ?_) #[true, true, true, true, true, true, true, true, true, true, true] rfl rfl (any_of HT_.out (by kernel_rfl)) (fun _ _ _ h => h) (Or.inl ⟨by rfl, ?_⟩) ?_ ?_
     rotate_left
     · intro w'
       go_simp
       with_reducible rfl
     rotate_left
     · simp only [Act.put, List.setIfInBounds_toArray, List.set_cons_zero, List.set_cons_succ, i64_w, i32_w]
       rfl
     refine done_ (done_of HT_.out (by kernel_rfl)) ?_
     try go_wp2
     go_ret
     exact ⟨by first | rfl | (simp [errW_none, errW_some] <;> rfl) | (simp [*, errW_none, errW_some] <;> rfl), by repeat (first | (with_reducible first | exact HB.out | apply below_alloc | apply pw_below_drewN | apply below_drew1) | exact HB.out)⟩
   · rw [if_neg c7] at H
     exact absurd H (by simp)

end Go.Proofs.YtkohjiajbdkcbaaDoor.All


namespace Go.Proofs.YtkohjiajbdkcbaaDoor.All
open Go.RowKit Go.Proofs.YtkohjiajbdkcbaaDoorW.PrintWords Go.Proofs.YtkohjiajbdkcbaaDoorW.PrintLast Go.Proofs.YtkohjiajbdkcbaaDoorW.PrintMore
attribute [local go_sem] max2_int min2_int max_two min_two max_three min_three max_four min_four   -- for this text's walks alone
set_option linter.unusedVariables false
set_option linter.unusedSimpArgs false

/-! ### spec_l1Size: function 54 -/
def spec_l1Size.f (a0 : Int) : Option (Int) := if a0 < 0 then (some (IntKind.u64.wrap ((IntKind.u64.wrap (wrap64 (-(wrap64 (a0 + 1))))) + 1))) else (some (IntKind.u64.wrap (a0)))
set_option maxHeartbeats 8000000 in
set_option maxRecDepth 100000 in
theorem spec_l1Size.calls (a0 : Int) (r : Int) (w : World) (h : spec_l1Size.f a0 = some r) :
 Calls Tryd.prog 54 #[.int .i64 a0] w fun e w' => e = .returned (.int .u64 r) ∧ Drawn0 w w' := by
 have H : (if a0 < 0 then (some (IntKind.u64.wrap ((IntKind.u64.wrap (wrap64 (-(wrap64 (a0 + 1))))) + 1))) else (some (IntKind.u64.wrap (a0)))) = some r := h
 clear h
 by_cases c2 : a0 < 0
 · rw [if_pos c2] at H
   have c2b0 : decide (a0 < 0) = true := decide_eq_true c2
   clear c2
   obtain rfl := Option.some.inj H
   go_enter Tryd.func54, Tryd.ntmps54
   go_wp2
   go_ret
   exact ⟨by first | rfl | (simp; done) | (simp [*]; done), by repeat (first | exact Drawn0.refl _ | apply Drawn0.step)⟩
 · rw [if_neg c2] at H
   have c2b0 : decide (a0 < 0) = false := decide_eq_false c2
   clear c2
   obtain rfl := Option.some.inj H
   go_enter Tryd.func54, Tryd.ntmps54
   go_wp2
   go_ret
   exact ⟨by first | rfl | (simp; done) | (simp [*]; done), by repeat (first | exact Drawn0.refl _ | apply Drawn0.step)⟩

end Go.Proofs.YtkohjiajbdkcbaaDoor.All


namespace Go.Proofs.YtkohjiajbdkcbaaDoor.All
open Go.RowKit Go.Proofs.YtkohjiajbdkcbaaDoorW.PrintWords Go.Proofs.YtkohjiajbdkcbaaDoorW.PrintLast Go.Proofs.YtkohjiajbdkcbaaDoorW.PrintMore
attribute [local go_sem] max2_int min2_int max_two min_two max_three min_three max_four min_four   -- for this text's walks alone
set_option linter.unusedVariables false
set_option linter.unusedSimpArgs false

/-! ### spec_FormatWord: function 23 -/
def spec_FormatWord.j0 : Nat → Int → Int → Bool → Option (ByteArray)
 | 0, _, _, _ => none
 | k + 1, x1, x5, x18 => if x18 = true then ((spec_l1Size.f x5).bind fun t117 => ((spec_l1Decimal.f k t117).bind fun t118 => (if 1 + t118.size ≤ 9223372036854775807 then (some ((⟨#[45]⟩ : ByteArray) ++ t118)) else (none)))) else ((spec_l1Decimal.f k x1).bind fun t119 => (some t119))
def spec_FormatWord.f (k : Nat) (a0 : Int) (a1 : Int) : Option (ByteArray) := (spec_l1Is.f a0 a1).bind fun t115 => (if t115 = true then ((spec_Signed.f a0 a1).bind fun t116 => (if a0 > 1 then (spec_FormatWord.j0 k a1 t116 (decide (t116 < 0))) else (spec_FormatWord.j0 k a1 t116 false))) else (some (⟨#[]⟩ : ByteArray)))
set_option maxHeartbeats 8000000 in
set_option maxRecDepth 100000 in
theorem spec_FormatWord.calls (k : Nat) (a0 : Int) (a1 : Int) (r : ByteArray) (w : World) (h : spec_FormatWord.f k a0 a1 = some r) :
 Calls Tryd.prog 23 #[.int .i64 a0, .int .u64 a1] w fun e w' => e = .returned (.string r) ∧ Below w.heap.size w w' := by
 have HB := Aside0.mk (Below.refl w.heap.size w)
 have H : ((spec_l1Is.f a0 a1).bind fun t115 => (if t115 = true then ((spec_Signed.f a0 a1).bind fun t116 => (if a0 > 1 then (spec_FormatWord.j0 k a1 t116 (decide (t116 < 0))) else (spec_FormatWord.j0 k a1 t116 false))) else (some (⟨#[]⟩ : ByteArray)))) = some r := h
 clear h
 replace H := Option.bind_eq_some_iff.mp H
 obtain ⟨t115, A30, H⟩ := H
 replace H : (if t115 = true then ((spec_Signed.f a0 a1).bind fun t116 => (if a0 > 1 then (spec_FormatWord.j0 k a1 t116 (decide (t116 < 0))) else (spec_FormatWord.j0 k a1 t116 false))) else (some (⟨#[]⟩ : ByteArray))) = some r := H
 have A3 := Aside0.mk A30
 clear A30
 by_cases c4 : t115 = true
 · subst c4
   have H1 : ((spec_Signed.f a0 a1).bind fun t116 => (if a0 > 1 then (spec_FormatWord.j0 k a1 t116 (decide (t116 < 0))) else (spec_FormatWord.j0 k a1 t116 false))) = some r := by rw [if_pos rfl] at H; exact H
   clear H
   have H := H1
   clear H1
   replace H := Option.bind_eq_some_iff.mp H
   obtain ⟨t116, A50, H⟩ := H
   replace H : (if a0 > 1 then (spec_FormatWord.j0 k a1 t116 (decide (t116 < 0))) else (spec_FormatWord.j0 k a1 t116 false)) = some r := H
   have A5 := Aside0.mk A50
   clear A50
   have HC6 := Aside0.mk H
   clear H
   go_enter Tryd.func23, Tryd.ntmps23
   go_upto_region 4 with (first | ((with_reducible refine gate_callee (f := 51) rfl ?_); refine goesL_ (some 8) rfl rfl Tryd.func51 (by kernel_rfl) rfl #[.int .i64 a0, .int .u64 a1] rfl (by (try simp only [List.map_toArray, List.map_cons, List.map_nil]); first | done | rfl | (simp only [List.length_drop, List.length_take]; rfl)) ?_; (with_reducible refine (spec_l1Is.calls a0 a1 true _ A3.out).mono ?_); rintro e w' ⟨rfl, ⟨nd, rfl⟩⟩; refine ⟨_, rfl, ?_⟩) | ((with_reducible refine gate_callee (f := 52) rfl ?_); refine goesL_ (some 12) rfl rfl Tryd.func52 (by kernel_rfl) rfl #[.int .i64 a0, .int .u64 a1] rfl (by (try simp only [List.map_toArray, List.map_cons, List.map_nil]); first | done | rfl | (simp only [List.length_drop, List.length_take]; rfl)) ?_; (with_reducible refine (spec_Signed.calls a0 a1 t116 _ A5.out).mono ?_); rintro e w' ⟨rfl, ⟨nd, rfl⟩⟩; refine ⟨_, rfl, ?_⟩))
   (try simp only [Act.put, List.setIfInBounds_toArray, List.set_cons_zero, List.set_cons_succ])
   go_cut [18] (fun v18 wc => ∃ (kq : Nat) (x18_5 : Bool), v18 = .bool x18_5 ∧ Aside0 (spec_FormatWord.j0 kq a1 t116 x18_5 = some r) ∧ Aside0 (kq ≤ k) ∧ Aside0 (Below w.heap.size w wc))
   case first =>
    have H := HC6.out
    clear HC6
    by_cases c7 : a0 > 1
    · rw [if_pos c7] at H
      have c7b0 : decide (1 < a0) = true := decide_eq_true c7
      clear c7
      (first | rw [c7b0] | (simp only [i64_w, i32_w]; rw [c7b0]) | skip)
      have H' := Aside0.mk H
      clear H
      go_wp2
      go_meet
      case rel => exact ⟨_, (decide (t116 < 0)), (by first | rfl | (simp; done) | (simp [*]; done)), H', ⟨by first | omega | exact Nat.le_refl _⟩, ⟨by repeat (first | (with_reducible first | exact HB.out | apply below_alloc | apply pw_below_drewN | apply below_drew1) | exact HB.out)⟩⟩
    · rw [if_neg c7] at H
      have c7b0 : decide (1 < a0) = false := decide_eq_false c7
      clear c7
      (first | rw [c7b0] | (simp only [i64_w, i32_w]; rw [c7b0]) | skip)
      have H' := Aside0.mk H
      clear H
      go_wp2
      go_meet
      case rel => exact ⟨_, (false), (by first | rfl | (simp; done) | (simp [*]; done)), H', ⟨by first | omega | exact Nat.le_refl _⟩, ⟨by repeat (first | (with_reducible first | exact HB.out | apply below_alloc | apply pw_below_drewN | apply below_drew1) | exact HB.out)⟩⟩
   case rest =>
    clear HC6
    try clear c2
    try clear p2
    try clear c4
    try clear c5
    try clear c7
    try clear c7b0
    obtain ⟨kq, x18_5, rfl, HA, HJ5, HB⟩ := hcut
    cases kq with
    | zero => exact absurd HA.out (by simp [spec_FormatWord.j0])
    | succ kj5 =>
     have H := HA.out
     clear HA
     simp only [spec_FormatWord.j0] at H
     by_cases c8 : x18_5 = true
     · subst c8
       have H1 : ((spec_l1Size.f t116).bind fun t117 => ((spec_l1Decimal.f kj5 t117).bind fun t118 => (if 1 + t118.size ≤ 9223372036854775807 then (some ((⟨#[45]⟩ : ByteArray) ++ t118)) else (none)))) = some r := by rw [if_pos rfl] at H; exact H
       clear H
       have H := H1
       clear H1
       replace H := Option.bind_eq_some_iff.mp H
       obtain ⟨t117, A90, H⟩ := H
       replace H : ((spec_l1Decimal.f kj5 t117).bind fun t118 => (if 1 + t118.size ≤ 9223372036854775807 then (some ((⟨#[45]⟩ : ByteArray) ++ t118)) else (none))) = some r := H
       have A9 := Aside0.mk A90
       clear A90
       replace H := Option.bind_eq_some_iff.mp H
       obtain ⟨t118, A100, H⟩ := H
       replace H : (if 1 + t118.size ≤ 9223372036854775807 then (some ((⟨#[45]⟩ : ByteArray) ++ t118)) else (none)) = some r := H
       have A10 := Aside0.mk A100
       clear A100
       by_cases c11 : 1 + t118.size ≤ 9223372036854775807
       · rw [if_pos c11] at H
         have c11b0 := eq_true c11
         have c11b1 : decide (1 + t118.size ≤ 9223372036854775807) = true := decide_eq_true c11
         try have c11b2 : (9223372036854775807 < 1 + t118.size) = False := eq_false (Nat.not_lt.2 c11)
         obtain rfl := Option.some.inj H
         go_wp2_with (first | ((with_reducible refine gate_callee (f := 54) rfl ?_); refine goesL_ (some 20) rfl rfl Tryd.func54 (by kernel_rfl) rfl #[.int .i64 t116] rfl (by (try simp only [List.map_toArray, List.map_cons, List.map_nil]); first | done | rfl | (simp only [List.length_drop, List.length_take]; rfl)) ?_; (with_reducible refine (spec_l1Size.calls t116 t117 _ A9.out).mono ?_); rintro e w' ⟨rfl, ⟨nd, rfl⟩⟩; refine ⟨_, rfl, ?_⟩) | ((with_reducible refine gate_callee (f := 53) rfl ?_); refine goesL_ (some 21) rfl rfl Tryd.func53 (by kernel_rfl) rfl #[.int .u64 t117] rfl (by (try simp only [List.map_toArray, List.map_cons, List.map_nil]); first | done | rfl | (simp only [List.length_drop, List.length_take]; rfl)) ?_; (with_reducible refine (spec_l1Decimal.calls kj5 t117 t118 _ A10.out).mono ?_); rintro e w12 ⟨rfl, hb⟩; refine ⟨_, rfl, ?_⟩; have n0_ := Aside0.mk (below_step (by repeat (first | (with_reducible first | exact HB.out | apply below_alloc | apply pw_below_drewN | apply below_drew1) | exact HB.out)) hb); clear HB; have HB := n0_; clear n0_; (try clear hb); (try clear hb2); (try clear hk); (try clear hi)))
         go_ret
         exact ⟨by first | rfl | (simp [errW_none, errW_some] <;> rfl) | (simp [*, errW_none, errW_some] <;> rfl), by repeat (first | (with_reducible first | exact HB.out | apply below_alloc | apply pw_below_drewN | apply below_drew1) | exact HB.out)⟩
       · rw [if_neg c11] at H
         exact absurd H (by simp)
     · replace c8 := Bool.eq_false_iff.mpr c8
       subst c8
       have H1 : ((spec_l1Decimal.f kj5 a1).bind fun t119 => (some t119)) = some r := by rw [if_neg (show ¬ (false = true) by decide)] at H; exact H
       clear H
       have H := H1
       clear H1
       replace H := Option.bind_eq_some_iff.mp H
       obtain ⟨t119, A130, H⟩ := H
       replace H : (some t119) = some r := H
       have A13 := Aside0.mk A130
       clear A130
       obtain rfl := Option.some.inj H
       go_wp2_with (first | ((with_reducible refine gate_callee (f := 53) rfl ?_); refine goesL_ (some 24) rfl rfl Tryd.func53 (by kernel_rfl) rfl #[.int .u64 a1] rfl (by (try simp only [List.map_toArray, List.map_cons, List.map_nil]); first | done | rfl | (simp only [List.length_drop, List.length_take]; rfl)) ?_; (with_reducible refine (spec_l1Decimal.calls kj5 a1 t119 _ A13.out).mono ?_); rintro e w14 ⟨rfl, hb⟩; refine ⟨_, rfl, ?_⟩; have n0_ := Aside0.mk (below_step (by repeat (first | (with_reducible first | exact HB.out | apply below_alloc | apply pw_below_drewN | apply below_drew1) | exact HB.out)) hb); clear HB; have HB := n0_; clear n0_; (try clear hb); (try clear hb2); (try clear hk); (try clear hi)))
       go_ret
       exact ⟨by first | rfl | (simp [errW_none, errW_some] <;> rfl) | (simp [*, errW_none, errW_some] <;> rfl), by repeat (first | (with_reducible first | exact HB.out | apply below_alloc | apply pw_below_drewN | apply below_drew1) | exact HB.out)⟩
 · replace c4 := Bool.eq_false_iff.mpr c4
   subst c4
   have H1 : (some (⟨#[]⟩ : ByteArray)) = some r := by rw [if_neg (show ¬ (false = true) by decide)] at H; exact H
   clear H
   have H := H1
   clear H1
   obtain rfl := Option.some.inj H
   go_enter Tryd.func23, Tryd.ntmps23
   go_wp2_with (first | ((with_reducible refine gate_callee (f := 51) rfl ?_); refine goesL_ (some 8) rfl rfl Tryd.func51 (by kernel_rfl) rfl #[.int .i64 a0, .int .u64 a1] rfl (by (try simp only [List.map_toArray, List.map_cons, List.map_nil]); first | done | rfl | (simp only [List.length_drop, List.length_take]; rfl)) ?_; (with_reducible refine (spec_l1Is.calls a0 a1 false _ A3.out).mono ?_); rintro e w' ⟨rfl, ⟨nd, rfl⟩⟩; refine ⟨_, rfl, ?_⟩))
   go_ret
   exact ⟨by first | rfl | (simp [errW_none, errW_some] <;> rfl) | (simp [*, errW_none, errW_some] <;> rfl), by repeat (first | (with_reducible first | exact HB.out | apply below_alloc | apply pw_below_drewN | apply below_drew1) | exact HB.out)⟩

end Go.Proofs.YtkohjiajbdkcbaaDoor.All


namespace Go.Proofs.YtkohjiajbdkcbaaDoor.All
open Go.RowKit Go.Proofs.YtkohjiajbdkcbaaDoorW.PrintWords Go.Proofs.YtkohjiajbdkcbaaDoorW.PrintLast Go.Proofs.YtkohjiajbdkcbaaDoorW.PrintMore
attribute [local go_sem] max2_int min2_int max_two min_two max_three min_three max_four min_four   -- for this text's walks alone
set_option linter.unusedVariables false
set_option linter.unusedSimpArgs false

/-! ### spec_ParseWord: function 13 -/
mutual
def spec_ParseWord.j0 : Nat → Int → ByteArray → Bool → Option (Bool × Int)
 | 0, _, _, _ => none
 | k + 1, x0, x1, x14 => if x14 = true then (some (false, 0)) else (spec_ParseWord.l0 k x0 x1 0 0)
def spec_ParseWord.l0 : Nat → Int → ByteArray → Int → Int → Option (Bool × Int)
 | 0, _, _, _, _ => none
 | k + 1, x0, x1, x5, x6 => if x6 < (x1.size : Int) then (if 0 ≤ x6 then (if (bt x1 x6) = 45 then (spec_ParseWord.l0 k x0 x1 x5 (wrap64 (x6 + 1))) else (spec_ParseWord.l0 k x0 x1 (IntKind.u64.wrap ((IntKind.u64.wrap ((IntKind.u64.wrap (x5 * 10)) + (IntKind.u64.wrap (bt x1 x6)))) - 48)) (wrap64 (x6 + 1)))) else (none)) else (if (x1.size : Int) > 0 then (if 0 < (x1.size : Int) then (spec_ParseWord.j2 k x0 x1 x5 ((bt x1 0) == 45)) else (none)) else (spec_ParseWord.j2 k x0 x1 x5 false))
def spec_ParseWord.j2 : Nat → Int → ByteArray → Int → Bool → Option (Bool × Int)
 | 0, _, _, _, _ => none
 | k + 1, x0, x1, x5, x41 => if x41 = true then (spec_ParseWord.j3 k x0 x1 (IntKind.u64.wrap (-x5))) else (spec_ParseWord.j3 k x0 x1 x5)
def spec_ParseWord.j3 : Nat → Int → ByteArray → Int → Option (Bool × Int)
 | 0, _, _, _ => none
 | k + 1, x0, x1, x5 => (spec_Cut.f x0 x5).bind fun t122 => (if x1.toList = ([] : List UInt8) then (some (false, 0)) else ((spec_FormatWord.f k x0 t122).bind fun t123 => (if t123.toList = x1.toList then (some (true, t122)) else (some (false, 0)))))
end
def spec_ParseWord.f (k : Nat) (a0 : Int) (a1 : ByteArray) : Option (Bool × Int) := (spec_ValidWidth.f a0).bind fun t121 => (if t121 = true then (spec_ParseWord.j0 k a0 a1 (decide ((a1.size : Int) > 30))) else (spec_ParseWord.j0 k a0 a1 true))
set_option maxHeartbeats 8000000 in
set_option maxRecDepth 100000 in
theorem spec_ParseWord.calls (k : Nat) (a0 : Int) (a1 : ByteArray) (r1 : Bool) (r2 : Int) (w : World) (h : spec_ParseWord.f k a0 a1 = some (r1, r2)) :
 Calls Tryd.prog 13 #[.int .i64 a0, .string a1] w fun e w' => e = .returned (.agg #[.bool r1, .int .u64 r2]) ∧ Below w.heap.size w w' := by
 have hu37 := Tryd.underlying37
 have HB := Aside0.mk (Below.refl w.heap.size w)
 have H : ((spec_ValidWidth.f a0).bind fun t121 => (if t121 = true then (spec_ParseWord.j0 k a0 a1 (decide ((a1.size : Int) > 30))) else (spec_ParseWord.j0 k a0 a1 true))) = some (r1, r2) := h
 clear h
 have HC3 := Aside0.mk H
 clear H
 go_enter Tryd.func13, Tryd.ntmps13
 go_upto_region 1 with (first | ((with_reducible refine gate_dst (N := 4) rfl ?_); (try (refine gate_guard (by rfl) ?_; dsimp only)); refine box_event ?hg (N := 4) ?hd (cs := #[.bool false, .int .u64 0]) (t := 37) ?hr ?_; (case hd => rfl); (case hg => rfl); (case hr => first | (go_simp; done) | (go_simp; rfl)); intro gb120 hg w4 hbox hb; have n0_ := Aside0.mk (below_step (by repeat (first | (with_reducible first | exact HB.out | apply below_alloc | apply pw_below_drewN | apply below_drew1) | exact HB.out)) hb); have n1_ := Aside0.mk (hbox); have n2_ := Aside0.mk ((by rw [hg]; exact (below_size (by repeat (first | (with_reducible first | exact HB.out | apply below_alloc | apply pw_below_drewN | apply below_drew1) | exact HB.out))) : w.heap.size ≤ gb120)); have n3_ := Aside0.mk ((by rw [hg]; exact (below_size (by repeat (first | (with_reducible first | exact HB.out | apply below_alloc | apply pw_below_drewN | apply below_drew1) | exact HB.out))) : w.heap.size ≤ gb120)); clear HB; have HB := n0_; have BK120 := n1_; have GW120 := n2_; have GE120 := n3_; clear n0_ n1_ n2_ n3_; clear hb hbox hg))
 (try simp only [Act.put, List.setIfInBounds_toArray, List.set_cons_zero, List.set_cons_succ])
 go_cut [14] (fun v14 wc => ∃ (kq : Nat) (x14_2 : Bool), v14 = .bool x14_2 ∧ Aside0 (spec_ParseWord.j0 kq a0 a1 x14_2 = some (r1, r2)) ∧ Aside0 (kq ≤ k) ∧ Aside0 (wc.heap[gb120]? = some (.cells #[.bool false, .int .u64 0] 37 (0, 0))) ∧ Aside0 (Below w.heap.size w wc))
 case first =>
  have H := HC3.out
  clear HC3
  replace H := Option.bind_eq_some_iff.mp H
  obtain ⟨t121, A50, H⟩ := H
  replace H : (if t121 = true then (spec_ParseWord.j0 k a0 a1 (decide ((a1.size : Int) > 30))) else (spec_ParseWord.j0 k a0 a1 true)) = some (r1, r2) := H
  have A5 := Aside0.mk A50
  clear A50
  by_cases c6 : t121 = true
  · subst c6
    have H1 : (spec_ParseWord.j0 k a0 a1 (decide ((a1.size : Int) > 30))) = some (r1, r2) := by rw [if_pos rfl] at H; exact H
    clear H
    have H := H1
    clear H1
    have H' := Aside0.mk H
    clear H
    go_wp2_with (first | ((with_reducible refine gate_callee (f := 44) rfl ?_); refine goesL_ (some 8) rfl rfl Tryd.func44 (by kernel_rfl) rfl #[.int .i64 a0] rfl (by (try simp only [List.map_toArray, List.map_cons, List.map_nil]); first | done | rfl | (simp only [List.length_drop, List.length_take]; rfl)) ?_; (with_reducible refine (spec_ValidWidth.calls a0 true _ A5.out).mono ?_); rintro e w' ⟨rfl, ⟨nd, rfl⟩⟩; refine ⟨_, rfl, ?_⟩))
    go_meet
    case rel => exact ⟨_, (decide ((a1.size : Int) > 30)), (by first | rfl | (simp; done) | (simp [*]; done)), H', ⟨by first | omega | exact Nat.le_refl _⟩, ⟨by (with_reducible repeat (first | refine blk_drewN ?_ _ | refine blk_drew ?_ | refine blk_alloc ?_ _)); exact BK120.out⟩, ⟨by repeat (first | (with_reducible first | exact HB.out | apply below_alloc | apply pw_below_drewN | apply below_drew1 | refine below_set ?_ GE120.out) | exact HB.out)⟩⟩
  · replace c6 := Bool.eq_false_iff.mpr c6
    subst c6
    have H1 : (spec_ParseWord.j0 k a0 a1 true) = some (r1, r2) := by rw [if_neg (show ¬ (false = true) by decide)] at H; exact H
    clear H
    have H := H1
    clear H1
    have H' := Aside0.mk H
    clear H
    go_wp2_with (first | ((with_reducible refine gate_callee (f := 44) rfl ?_); refine goesL_ (some 8) rfl rfl Tryd.func44 (by kernel_rfl) rfl #[.int .i64 a0] rfl (by (try simp only [List.map_toArray, List.map_cons, List.map_nil]); first | done | rfl | (simp only [List.length_drop, List.length_take]; rfl)) ?_; (with_reducible refine (spec_ValidWidth.calls a0 false _ A5.out).mono ?_); rintro e w' ⟨rfl, ⟨nd, rfl⟩⟩; refine ⟨_, rfl, ?_⟩))
    go_meet
    case rel => exact ⟨_, (true), (by first | rfl | (simp; done) | (simp [*]; done)), H', ⟨by first | omega | exact Nat.le_refl _⟩, ⟨by (with_reducible repeat (first | refine blk_drewN ?_ _ | refine blk_drew ?_ | refine blk_alloc ?_ _)); exact BK120.out⟩, ⟨by repeat (first | (with_reducible first | exact HB.out | apply below_alloc | apply pw_below_drewN | apply below_drew1 | refine below_set ?_ GE120.out) | exact HB.out)⟩⟩
 case rest =>
  clear HC3
  try clear c1
  try clear p2
  try clear c4
  try clear c6
  obtain ⟨kq, x14_2, rfl, HA, HJ2, BK120, HB⟩ := hcut
  cases kq with
  | zero => exact absurd HA.out (by simp [spec_ParseWord.j0])
  | succ kj2 =>
   have H := HA.out
   clear HA
   simp only [spec_ParseWord.j0] at H
   by_cases c7 : x14_2 = true
   · subst c7
     have H1 : (some (false, 0)) = some (r1, r2) := by rw [if_pos rfl] at H; exact H
     clear H
     have H := H1
     clear H1
     simp only [Option.some.injEq, Prod.mk.injEq] at H
     obtain ⟨rfl, rfl⟩ := H
     have hcz8_0 : wc.cell? ⟨gb120, 0, none⟩ = some (.bool false) := (blk_cell BK120.out 0).trans rfl
     have hcz8_1 : wc.cell? ⟨gb120, 1, none⟩ = some (.int .u64 0) := (blk_cell BK120.out 1).trans rfl
     have hfz8_0 := blk_frozen BK120.out 0
     have hfz8_1 := blk_frozen BK120.out 1
     go_wp2
     refine bodyPost_ret (results_cell_row rfl _ _ gb120 37 #[.bool false, .int .u64 0] (0, 0) _ rfl (by (with_reducible repeat (first | refine blk_drewN ?_ _ | refine blk_drew ?_ | refine blk_alloc ?_ _)); refine blk_put (cs := #[.bool false, .int .u64 0]) ?_ 1 _ rfl; (with_reducible repeat (first | refine blk_drewN ?_ _ | refine blk_drew ?_ | refine blk_alloc ?_ _)); refine blk_put (cs := #[.bool false, .int .u64 0]) ?_ 0 _ rfl; (with_reducible repeat (first | refine blk_drewN ?_ _ | refine blk_drew ?_ | refine blk_alloc ?_ _)); exact BK120.out) Tryd.underlying37 rfl (by kernel_rfl)) rfl ?_
     exact ⟨by first | rfl | (simp [errW_none, errW_some] <;> rfl) | (simp [*, errW_none, errW_some] <;> rfl), by repeat (first | (with_reducible first | exact HB.out | apply below_alloc | apply pw_below_drewN | apply below_drew1 | refine below_set ?_ GE120.out) | exact HB.out)⟩
   · replace c7 := Bool.eq_false_iff.mpr c7
     subst c7
     have H1 : (spec_ParseWord.l0 kj2 a0 a1 0 0) = some (r1, r2) := by rw [if_neg (show ¬ (false = true) by decide)] at H; exact H
     clear H
     have H := H1
     clear H1
     have H' := Aside0.mk H
     clear H
     go_wp2
     go_loopg [5, 6] kj2 (fun kq v5 v6 w' => ∃ (x5_2 : Int) (x6_2 : Int), v5 = .int .u64 x5_2 ∧ v6 = .int .i64 x6_2 ∧ Aside0 (spec_ParseWord.l0 kq a0 a1 x5_2 x6_2 = some (r1, r2)) ∧ Aside0 (kq ≤ kj2) ∧ Aside0 (w'.heap[gb120]? = some (.cells #[.bool false, .int .u64 0] 37 (0, 0))) ∧ Aside0 (Below w.heap.size w w'))
     case atStart => exact ⟨(0), (0), (by first | rfl | (simp; done) | (simp [*]; done)), (by first | rfl | (simp; done) | (simp [*]; done)), H', ⟨Nat.le_refl _⟩, ⟨by (with_reducible repeat (first | refine blk_drewN ?_ _ | refine blk_drew ?_ | refine blk_alloc ?_ _)); exact BK120.out⟩, ⟨by repeat (first | (with_reducible first | exact HB.out | apply below_alloc | apply pw_below_drewN | apply below_drew1 | refine below_set ?_ GE120.out) | exact HB.out)⟩⟩
     case round =>
      clear H'
      try clear c1
      try clear p2
      try clear c4
      try clear c6
      try clear c7
      try clear hcz8_0
      try clear hcz8_1
      try clear hfz8_0
      try clear hfz8_1
      try clear p2
      obtain ⟨x5_2, x6_2, rfl, rfl, HA, HK2, BK120, HB⟩ := hrel
      cases gk with
      | zero => exact absurd HA.out (by simp [spec_ParseWord.l0])
      | succ k2 =>
       have H := HA.out
       clear HA
       simp only [spec_ParseWord.l0] at H
       by_cases c9 : x6_2 < (a1.size : Int)
       · rw [if_pos c9] at H
         have c9b0 : decide (x6_2 < (a1.size : Int)) = true := decide_eq_true c9
         clear c9
         by_cases c10 : 0 ≤ x6_2
         · rw [if_pos c10] at H
           have c10b0 : decide (0 ≤ x6_2) = true := decide_eq_true c10
           clear c10
           by_cases c12 : (bt a1 x6_2) = 45
           · rw [if_pos c12] at H
             have c12b0 : ((bt a1 x6_2) == 45) = true := beq_iff_eq.mpr c12
             have c12b1 : ((bt a1 x6_2) != 45) = false := bne_eq_false_iff_eq.mpr c12
             clear c12
             have H' := Aside0.mk H
             clear H
             have p11 : 0 ≤ (x6_2 : Int) := of_decide_eq_true (by first | (with_reducible assumption) | assumption)
             have q11 : x6_2 < (a1.size : Int) := of_decide_eq_true (by first | (with_reducible assumption) | assumption)
             have hx11 := bt_at a1 x6_2
             replace p11 := eq_true p11
             replace q11 := eq_true q11
             go_wp2
             go_roundg k2
             case measure => have := HJ2.out; have := HK2.out; omega
             case rel => exact ⟨(x5_2), (wrap64 (x6_2 + 1)), (by first | rfl | (simp; done) | (simp [*]; done)), (by first | rfl | (simp; done) | (simp [*]; done)), H', ⟨by have := HJ2.out; have := HK2.out; omega⟩, ⟨by (with_reducible repeat (first | refine blk_drewN ?_ _ | refine blk_drew ?_ | refine blk_alloc ?_ _)); exact BK120.out⟩, ⟨by repeat (first | (with_reducible first | exact HB.out | apply below_alloc | apply pw_below_drewN | apply below_drew1 | refine below_set ?_ GE120.out) | exact HB.out)⟩⟩
           · rw [if_neg c12] at H
             have c12b0 : ((bt a1 x6_2) == 45) = false := beq_eq_false_iff_ne.mpr c12
             have c12b1 : ((bt a1 x6_2) != 45) = true := bne_iff_ne.mpr c12
             have H' := Aside0.mk H
             clear H
             have p11 : 0 ≤ (x6_2 : Int) := of_decide_eq_true (by first | (with_reducible assumption) | assumption)
             have q11 : x6_2 < (a1.size : Int) := of_decide_eq_true (by first | (with_reducible assumption) | assumption)
             have hx11 := bt_at a1 x6_2
             replace p11 := eq_true p11
             replace q11 := eq_true q11
             have p13 : 0 ≤ (x6_2 : Int) := of_decide_eq_true (by first | (with_reducible assumption) | assumption)
             have q13 : x6_2 < (a1.size : Int) := of_decide_eq_true (by first | (with_reducible assumption) | assumption)
             have hx13 := bt_at a1 x6_2
             replace p13 := eq_true p13
             replace q13 := eq_true q13
             go_wp2
             go_roundg k2
             case measure => have := HJ2.out; have := HK2.out; omega
             case rel => exact ⟨(IntKind.u64.wrap ((IntKind.u64.wrap ((IntKind.u64.wrap (x5_2 * 10)) + (IntKind.u64.wrap (bt a1 x6_2)))) - 48)), (wrap64 (x6_2 + 1)), (by first | rfl | (simp; done) | (simp [*]; done)), (by first | rfl | (simp; done) | (simp [*]; done)), H', ⟨by have := HJ2.out; have := HK2.out; omega⟩, ⟨by (with_reducible repeat (first | refine blk_drewN ?_ _ | refine blk_drew ?_ | refine blk_alloc ?_ _)); exact BK120.out⟩, ⟨by repeat (first | (with_reducible first | exact HB.out | apply below_alloc | apply pw_below_drewN | apply below_drew1 | refine below_set ?_ GE120.out) | exact HB.out)⟩⟩
         · rw [if_neg c10] at H
           exact absurd H (by simp)
       · rw [if_neg c9] at H
         have c9b0 : decide (x6_2 < (a1.size : Int)) = false := decide_eq_false c9
         clear c9
         have HC14 := Aside0.mk H
         clear H
         go_upto_region 9 with (fail)
         go_cut [41] (fun v41 wc => ∃ (kq : Nat) (x41_13 : Bool), v41 = .bool x41_13 ∧ Aside0 (spec_ParseWord.j2 kq a0 a1 x5_2 x41_13 = some (r1, r2)) ∧ Aside0 (kq ≤ k2) ∧ Aside0 (wc.heap[gb120]? = some (.cells #[.bool false, .int .u64 0] 37 (0, 0))) ∧ Aside0 (Below w.heap.size w wc))
         case first =>
          have H := HC14.out
          clear HC14
          by_cases c15 : (a1.size : Int) > 0
          · rw [if_pos c15] at H
            have c15b0 : decide (0 < (a1.size : Int)) = true := decide_eq_true c15
            have c15b1 : decide (0 < a1.size) = true := decide_eq_true (by omega)
            clear c15
            (first | rw [c15b0] | (simp only [i64_w, i32_w]; rw [c15b0]) | skip)
            by_cases c16 : 0 < (a1.size : Int)
            · rw [if_pos c16] at H
              have c16b0 : decide (0 < (a1.size : Int)) = true := decide_eq_true c16
              have c16b1 : decide (0 < a1.size) = true := decide_eq_true (by omega)
              clear c16
              have H' := Aside0.mk H
              clear H
              have p17 : 0 ≤ (0 : Int) := (by omega)
              have q17 : 0 < a1.size := (by have : (0 : Int) < (a1.size : Int) := of_decide_eq_true (by first | (with_reducible assumption) | assumption); omega)
              have hx17 : ∀ h : 0 < a1.size, ((a1[0]'h).toNat : Int) = bt a1 0 := bt_at a1 0
              clear p17
              have qi17 : (0 < (a1.size : Int)) = True := eq_true (of_decide_eq_true (by first | (with_reducible assumption) | assumption))
              replace q17 := eq_true q17
              go_wp2
              go_meet
              case rel => exact ⟨_, (((bt a1 0) == 45)), (by first | rfl | (simp; done) | (simp [*]; done)), H', ⟨by have := HJ2.out; have := HK2.out; first | omega | exact Nat.le_refl _⟩, ⟨by (with_reducible repeat (first | refine blk_drewN ?_ _ | refine blk_drew ?_ | refine blk_alloc ?_ _)); exact BK120.out⟩, ⟨by repeat (first | (with_reducible first | exact HB.out | apply below_alloc | apply pw_below_drewN | apply below_drew1 | refine below_set ?_ GE120.out) | exact HB.out)⟩⟩
            · rw [if_neg c16] at H
              exact absurd H (by simp)
          · rw [if_neg c15] at H
            have c15b0 : decide (0 < (a1.size : Int)) = false := decide_eq_false c15
            have c15b1 : decide (0 < a1.size) = false := decide_eq_false (by omega)
            clear c15
            (first | rw [c15b0] | (simp only [i64_w, i32_w]; rw [c15b0]) | skip)
            have H' := Aside0.mk H
            clear H
            go_wp2
            go_meet
            case rel => exact ⟨_, (false), (by first | rfl | (simp; done) | (simp [*]; done)), H', ⟨by have := HJ2.out; have := HK2.out; first | omega | exact Nat.le_refl _⟩, ⟨by (with_reducible repeat (first | refine blk_drewN ?_ _ | refine blk_drew ?_ | refine blk_alloc ?_ _)); exact BK120.out⟩, ⟨by repeat (first | (with_reducible first | exact HB.out | apply below_alloc | apply pw_below_drewN | apply below_drew1 | refine below_set ?_ GE120.out) | exact HB.out)⟩⟩
         case rest =>
          clear HC14
          try clear c1
          try clear p1
          try clear q1
          try clear hx1
          try clear qi1
          try clear p2
          try clear c4
          try clear c6
          try clear p6
          try clear c7
          try clear c9
          try clear c9b0
          try clear c10
          try clear c10b0
          try clear p11
          try clear q11
          try clear hx11
          try clear c12
          try clear c12b0
          try clear c12b1
          try clear c13
          try clear p13
          try clear q13
          try clear hx13
          try clear c15
          try clear c15b0
          try clear c15b1
          try clear c16
          try clear c16b0
          try clear c16b1
          try clear p17
          try clear q17
          try clear hx17
          try clear qi17
          try clear hcz8_0
          try clear hcz8_1
          try clear hfz8_0
          try clear hfz8_1
          try clear p11
          try clear p13
          try clear p17
          try clear p2
          try clear q11
          try clear q13
          try clear q17
          obtain ⟨kq, x41_13, rfl, HA, HJ13, BK120, HB⟩ := hcut
          cases kq with
          | zero => exact absurd HA.out (by simp [spec_ParseWord.j2])
          | succ kj13 =>
           have H := HA.out
           clear HA
           simp only [spec_ParseWord.j2] at H
           have HC18 := Aside0.mk H
           clear H
           go_upto_if 41 with (fail)
           go_cut [5] (fun v5 wc => ∃ (kq : Nat) (x5_17 : Int), v5 = .int .u64 x5_17 ∧ Aside0 (spec_ParseWord.j3 kq a0 a1 x5_17 = some (r1, r2)) ∧ Aside0 (kq ≤ kj13) ∧ Aside0 (wc.heap[gb120]? = some (.cells #[.bool false, .int .u64 0] 37 (0, 0))) ∧ Aside0 (Below w.heap.size w wc))
           case first =>
            have H := HC18.out
            clear HC18
            by_cases c19 : x41_13 = true
            · subst c19
              have H1 : (spec_ParseWord.j3 kj13 a0 a1 (IntKind.u64.wrap (-x5_2))) = some (r1, r2) := by rw [if_pos rfl] at H; exact H
              clear H
              have H := H1
              clear H1
              have H' := Aside0.mk H
              clear H
              go_wp2
              go_meet
              case rel => exact ⟨_, (IntKind.u64.wrap (-x5_2)), (by first | rfl | (simp; done) | (simp [*]; done)), H', ⟨by have := HJ2.out; have := HK2.out; have := HJ13.out; first | omega | exact Nat.le_refl _⟩, ⟨by (with_reducible repeat (first | refine blk_drewN ?_ _ | refine blk_drew ?_ | refine blk_alloc ?_ _)); exact BK120.out⟩, ⟨by repeat (first | (with_reducible first | exact HB.out | apply below_alloc | apply pw_below_drewN | apply below_drew1 | refine below_set ?_ GE120.out) | exact HB.out)⟩⟩
            · replace c19 := Bool.eq_false_iff.mpr c19
              subst c19
              have H1 : (spec_ParseWord.j3 kj13 a0 a1 x5_2) = some (r1, r2) := by rw [if_neg (show ¬ (false = true) by decide)] at H; exact H
              clear H
              have H := H1
              clear H1
              have H' := Aside0.mk H
              clear H
              go_wp2
              go_meet
              case rel => exact ⟨_, (x5_2), (by first | rfl | (simp; done) | (simp [*]; done)), H', ⟨by have := HJ2.out; have := HK2.out; have := HJ13.out; first | omega | exact Nat.le_refl _⟩, ⟨by (with_reducible repeat (first | refine blk_drewN ?_ _ | refine blk_drew ?_ | refine blk_alloc ?_ _)); exact BK120.out⟩, ⟨by repeat (first | (with_reducible first | exact HB.out | apply below_alloc | apply pw_below_drewN | apply below_drew1 | refine below_set ?_ GE120.out) | exact HB.out)⟩⟩
           case rest =>
            clear HC18
            try clear c1
            try clear p1
            try clear q1
            try clear hx1
            try clear qi1
            try clear p2
            try clear c4
            try clear c6
            try clear p6
            try clear c7
            try clear c9
            try clear c9b0
            try clear c10
            try clear c10b0
            try clear p11
            try clear q11
            try clear hx11
            try clear c12
            try clear c12b0
            try clear c12b1
            try clear c13
            try clear p13
            try clear q13
            try clear hx13
            try clear c15
            try clear c15b0
            try clear c15b1
            try clear c16
            try clear c16b0
            try clear c16b1
            try clear p17
            try clear q17
            try clear hx17
            try clear qi17
            try clear c19
            try clear hcz8_0
            try clear hcz8_1
            try clear hfz8_0
            try clear hfz8_1
            try clear p1
            try clear p11
            try clear p13
            try clear p17
            try clear p2
            try clear p6
            try clear q1
            try clear q11
            try clear q13
            try clear q17
            obtain ⟨kq, x5_17, rfl, HA, HJ17, BK120, HB⟩ := hcut
            cases kq with
            | zero => exact absurd HA.out (by simp [spec_ParseWord.j3])
            | succ kj17 =>
             have H := HA.out
             clear HA
             simp only [spec_ParseWord.j3] at H
             replace H := Option.bind_eq_some_iff.mp H
             obtain ⟨t122, A200, H⟩ := H
             replace H : (if a1.toList = ([] : List UInt8) then (some (false, 0)) else ((spec_FormatWord.f kj17 a0 t122).bind fun t123 => (if t123.toList = a1.toList then (some (true, t122)) else (some (false, 0))))) = some (r1, r2) := H
             have A20 := Aside0.mk A200
             clear A200
             by_cases c21 : a1.toList = ([] : List UInt8)
             · rw [if_pos c21] at H
               have c21b0 : (a1.toList == ([] : List UInt8)) = true := beq_iff_eq.mpr c21
               have c21b1 : (a1.toList != ([] : List UInt8)) = false := bne_eq_false_iff_eq.mpr c21
               clear c21
               simp only [Option.some.injEq, Prod.mk.injEq] at H
               obtain ⟨rfl, rfl⟩ := H
               go_wp2_with (first | ((with_reducible refine gate_callee (f := 45) rfl ?_); refine goesL_ (some 46) rfl rfl Tryd.func45 (by kernel_rfl) rfl #[.int .i64 a0, .int .u64 x5_17] rfl (by (try simp only [List.map_toArray, List.map_cons, List.map_nil]); first | done | rfl | (simp only [List.length_drop, List.length_take]; rfl)) ?_; (with_reducible refine (spec_Cut.calls a0 x5_17 t122 _ A20.out).mono ?_); rintro e w' ⟨rfl, ⟨nd, rfl⟩⟩; refine ⟨_, rfl, ?_⟩; (try (rw [drewN_self wc]; generalize hq_ : World.drewN wc _ = wc; have n0_ : Aside0 (wc.heap[gb120]? = some (.cells #[.bool false, .int .u64 0] 37 (0, 0))) := ⟨by rw [← hq_]; exact (by (with_reducible repeat (first | refine blk_drewN ?_ _ | refine blk_drew ?_ | refine blk_alloc ?_ _)); exact BK120.out)⟩; have n1_ : Aside0 (Below w.heap.size w wc) := ⟨by rw [← hq_]; exact (by repeat (first | (with_reducible first | exact HB.out | apply below_alloc | apply pw_below_drewN | apply below_drew1 | refine below_set ?_ GE120.out) | exact HB.out))⟩; clear BK120 HB hq_; have BK120 := n0_; have HB := n1_; clear n0_ n1_)); have hcz22_0 : wc.cell? ⟨gb120, 0, none⟩ = some (.bool false) := (blk_cell BK120.out 0).trans rfl; have hcz22_1 : wc.cell? ⟨gb120, 1, none⟩ = some (.int .u64 0) := (blk_cell BK120.out 1).trans rfl; have hfz22_0 := blk_frozen BK120.out 0; have hfz22_1 := blk_frozen BK120.out 1))
               refine bodyPost_ret (results_cell_row rfl _ _ gb120 37 #[.bool false, .int .u64 0] (0, 0) _ rfl (by (with_reducible repeat (first | refine blk_drewN ?_ _ | refine blk_drew ?_ | refine blk_alloc ?_ _)); refine blk_put (cs := #[.bool false, .int .u64 0]) ?_ 1 _ rfl; (with_reducible repeat (first | refine blk_drewN ?_ _ | refine blk_drew ?_ | refine blk_alloc ?_ _)); refine blk_put (cs := #[.bool false, .int .u64 0]) ?_ 0 _ rfl; (with_reducible repeat (first | refine blk_drewN ?_ _ | refine blk_drew ?_ | refine blk_alloc ?_ _)); exact BK120.out) Tryd.underlying37 rfl (by kernel_rfl)) rfl ?_
               exact ⟨by first | rfl | (simp [errW_none, errW_some] <;> rfl) | (simp [*, errW_none, errW_some] <;> rfl), by repeat (first | (with_reducible first | exact HB.out | apply below_alloc | apply pw_below_drewN | apply below_drew1 | refine below_set ?_ GE120.out) | exact HB.out)⟩
             · rw [if_neg c21] at H
               have c21b0 : (a1.toList == ([] : List UInt8)) = false := beq_eq_false_iff_ne.mpr c21
               have c21b1 : (a1.toList != ([] : List UInt8)) = true := bne_iff_ne.mpr c21
               replace H := Option.bind_eq_some_iff.mp H
               obtain ⟨t123, A230, H⟩ := H
               replace H : (if t123.toList = a1.toList then (some (true, t122)) else (some (false, 0))) = some (r1, r2) := H
               have A23 := Aside0.mk A230
               clear A230
               by_cases c24 : t123.toList = a1.toList
               · rw [if_pos c24] at H
                 have c24b0 : (t123.toList == a1.toList) = true := beq_iff_eq.mpr c24
                 have c24b1 : (t123.toList != a1.toList) = false := bne_eq_false_iff_eq.mpr c24
                 clear c24
                 simp only [Option.some.injEq, Prod.mk.injEq] at H
                 obtain ⟨rfl, rfl⟩ := H
                 go_wp2_with (first | ((with_reducible refine gate_callee (f := 45) rfl ?_); refine goesL_ (some 46) rfl rfl Tryd.func45 (by kernel_rfl) rfl #[.int .i64 a0, .int .u64 x5_17] rfl (by (try simp only [List.map_toArray, List.map_cons, List.map_nil]); first | done | rfl | (simp only [List.length_drop, List.length_take]; rfl)) ?_; (with_reducible refine (spec_Cut.calls a0 x5_17 t122 _ A20.out).mono ?_); rintro e w' ⟨rfl, ⟨nd, rfl⟩⟩; refine ⟨_, rfl, ?_⟩; (try (rw [drewN_self wc]; generalize hq_ : World.drewN wc _ = wc; have n0_ : Aside0 (wc.heap[gb120]? = some (.cells #[.bool false, .int .u64 0] 37 (0, 0))) := ⟨by rw [← hq_]; exact (by (with_reducible repeat (first | refine blk_drewN ?_ _ | refine blk_drew ?_ | refine blk_alloc ?_ _)); exact BK120.out)⟩; have n1_ : Aside0 (Below w.heap.size w wc) := ⟨by rw [← hq_]; exact (by repeat (first | (with_reducible first | exact HB.out | apply below_alloc | apply pw_below_drewN | apply below_drew1 | refine below_set ?_ GE120.out) | exact HB.out))⟩; clear BK120 HB hq_; have BK120 := n0_; have HB := n1_; clear n0_ n1_))) | (go_at_call 23; (with_reducible refine (spec_FormatWord.calls kj17 a0 t122 t123 _ A23.out).mono ?_); rintro e w25 ⟨rfl, hb⟩; have n0_ := Aside0.mk (blk_below (g := gb120) (o := .cells #[.bool false, .int .u64 0] 37 (0, 0)) (by (with_reducible repeat (first | refine blk_drewN ?_ _ | refine blk_drew ?_ | refine blk_alloc ?_ _)); exact BK120.out) hb); have n1_ := Aside0.mk (below_step (by repeat (first | (with_reducible first | exact HB.out | apply below_alloc | apply pw_below_drewN | apply below_drew1 | refine below_set ?_ GE120.out) | exact HB.out)) hb); clear BK120; clear HB; have BK120 := n0_; have HB := n1_; clear n0_ n1_; (try clear hb); (try clear hb2); (try clear hk); (try clear hi); have hcz26_0 : w25.cell? ⟨gb120, 0, none⟩ = some (.bool false) := (blk_cell BK120.out 0).trans rfl; have hcz26_1 : w25.cell? ⟨gb120, 1, none⟩ = some (.int .u64 0) := (blk_cell BK120.out 1).trans rfl; have hfz26_0 := blk_frozen BK120.out 0; have hfz26_1 := blk_frozen BK120.out 1))
                 refine bodyPost_ret (results_cell_row rfl _ _ gb120 37 #[.bool true, .int .u64 t122] (0, 0) _ rfl (by (with_reducible repeat (first | refine blk_drewN ?_ _ | refine blk_drew ?_ | refine blk_alloc ?_ _)); refine blk_put (cs := #[.bool true, .int .u64 0]) ?_ 1 _ rfl; (with_reducible repeat (first | refine blk_drewN ?_ _ | refine blk_drew ?_ | refine blk_alloc ?_ _)); refine blk_put (cs := #[.bool false, .int .u64 0]) ?_ 0 _ rfl; (with_reducible repeat (first | refine blk_drewN ?_ _ | refine blk_drew ?_ | refine blk_alloc ?_ _)); exact BK120.out) Tryd.underlying37 rfl (by kernel_rfl)) rfl ?_
                 exact ⟨by first | rfl | (simp [errW_none, errW_some] <;> rfl) | (simp [*, errW_none, errW_some] <;> rfl), by repeat (first | (with_reducible first | exact HB.out | apply below_alloc | apply pw_below_drewN | apply below_drew1 | refine below_set ?_ GE120.out) | exact HB.out)⟩
               · rw [if_neg c24] at H
                 have c24b0 : (t123.toList == a1.toList) = false := beq_eq_false_iff_ne.mpr c24
                 have c24b1 : (t123.toList != a1.toList) = true := bne_iff_ne.mpr c24
                 simp only [Option.some.injEq, Prod.mk.injEq] at H
                 obtain ⟨rfl, rfl⟩ := H
                 go_wp2_with (first | ((with_reducible refine gate_callee (f := 45) rfl ?_); refine goesL_ (some 46) rfl rfl Tryd.func45 (by kernel_rfl) rfl #[.int .i64 a0, .int .u64 x5_17] rfl (by (try simp only [List.map_toArray, List.map_cons, List.map_nil]); first | done | rfl | (simp only [List.length_drop, List.length_take]; rfl)) ?_; (with_reducible refine (spec_Cut.calls a0 x5_17 t122 _ A20.out).mono ?_); rintro e w' ⟨rfl, ⟨nd, rfl⟩⟩; refine ⟨_, rfl, ?_⟩; (try (rw [drewN_self wc]; generalize hq_ : World.drewN wc _ = wc; have n0_ : Aside0 (wc.heap[gb120]? = some (.cells #[.bool false, .int .u64 0] 37 (0, 0))) := ⟨by rw [← hq_]; exact (by (with_reducible repeat (first | refine blk_drewN ?_ _ | refine blk_drew ?_ | refine blk_alloc ?_ _)); exact BK120.out)⟩; have n1_ : Aside0 (Below w.heap.size w wc) := ⟨by rw [← hq_]; exact (by repeat (first | (with_reducible first | exact HB.out | apply below_alloc | apply pw_below_drewN | apply below_drew1 | refine below_set ?_ GE120.out) | exact HB.out))⟩; clear BK120 HB hq_; have BK120 := n0_; have HB := n1_; clear n0_ n1_))) | (go_at_call 23; (with_reducible refine (spec_FormatWord.calls kj17 a0 t122 t123 _ A23.out).mono ?_); rintro e w27 ⟨rfl, hb⟩; have n0_ := Aside0.mk (blk_below (g := gb120) (o := .cells #[.bool false, .int .u64 0] 37 (0, 0)) (by (with_reducible repeat (first | refine blk_drewN ?_ _ | refine blk_drew ?_ | refine blk_alloc ?_ _)); exact BK120.out) hb); have n1_ := Aside0.mk (below_step (by repeat (first | (with_reducible first | exact HB.out | apply below_alloc | apply pw_below_drewN | apply below_drew1 | refine below_set ?_ GE120.out) | exact HB.out)) hb); clear BK120; clear HB; have BK120 := n0_; have HB := n1_; clear n0_ n1_; (try clear hb); (try clear hb2); (try clear hk); (try clear hi); have hcz28_0 : w27.cell? ⟨gb120, 0, none⟩ = some (.bool false) := (blk_cell BK120.out 0).trans rfl; have hcz28_1 : w27.cell? ⟨gb120, 1, none⟩ = some (.int .u64 0) := (blk_cell BK120.out 1).trans rfl; have hfz28_0 := blk_frozen BK120.out 0; have hfz28_1 := blk_frozen BK120.out 1))
                 refine bodyPost_ret (results_cell_row rfl _ _ gb120 37 #[.bool false, .int .u64 0] (0, 0) _ rfl (by (with_reducible repeat (first | refine blk_drewN ?_ _ | refine blk_drew ?_ | refine blk_alloc ?_ _)); refine blk_put (cs := #[.bool false, .int .u64 0]) ?_ 1 _ rfl; (with_reducible repeat (first | refine blk_drewN ?_ _ | refine blk_drew ?_ | refine blk_alloc ?_ _)); refine blk_put (cs := #[.bool false, .int .u64 0]) ?_ 0 _ rfl; (with_reducible repeat (first | refine blk_drewN ?_ _ | refine blk_drew ?_ | refine blk_alloc ?_ _)); exact BK120.out) Tryd.underlying37 rfl (by kernel_rfl)) rfl ?_
                 exact ⟨by first | rfl | (simp [errW_none, errW_some] <;> rfl) | (simp [*, errW_none, errW_some] <;> rfl), by repeat (first | (with_reducible first | exact HB.out | apply below_alloc | apply pw_below_drewN | apply below_drew1 | refine below_set ?_ GE120.out) | exact HB.out)⟩

end Go.Proofs.YtkohjiajbdkcbaaDoor.All


namespace Go.Proofs.YtkohjiajbdkcbaaDoor.All
open Go.RowKit Go.Proofs.YtkohjiajbdkcbaaDoorW.PrintWords Go.Proofs.YtkohjiajbdkcbaaDoorW.PrintLast Go.Proofs.YtkohjiajbdkcbaaDoorW.PrintMore
attribute [local go_sem] max2_int min2_int max_two min_two max_three min_three max_four min_four   -- for this text's walks alone
set_option linter.unusedVariables false
set_option linter.unusedSimpArgs false

/-! ### impl_ValidWidth: function 46 -/
def impl_ValidWidth.f (a0 : Int) : Option (Bool) := if a0 = 1 then (some true) else (if a0 = 8 then (some true) else (if a0 = 16 then (some true) else (if a0 = 32 then (some true) else (some (a0 == 64)))))
set_option maxHeartbeats 8000000 in
set_option maxRecDepth 100000 in
theorem impl_ValidWidth.calls (a0 : Int) (r : Bool) (w : World) (h : impl_ValidWidth.f a0 = some r) :
 Calls Tryd.prog 46 #[.int .i64 a0] w fun e w' => e = .returned (.bool r) ∧ Drawn0 w w' := by
 have H : (if a0 = 1 then (some true) else (if a0 = 8 then (some true) else (if a0 = 16 then (some true) else (if a0 = 32 then (some true) else (some (a0 == 64)))))) = some r := h
 clear h
 by_cases c2 : a0 = 1
 · rw [if_pos c2] at H
   have c2b0 : (a0 == 1) = true := beq_iff_eq.mpr c2
   have c2b1 : (a0 != 1) = false := bne_eq_false_iff_eq.mpr c2
   clear c2
   obtain rfl := Option.some.inj H
   go_enter Tryd.func46, Tryd.ntmps46
   go_wp2
   go_ret
   exact ⟨by first | rfl | (simp; done) | (simp [*]; done), by repeat (first | exact Drawn0.refl _ | apply Drawn0.step)⟩
 · rw [if_neg c2] at H
   have c2b0 : (a0 == 1) = false := beq_eq_false_iff_ne.mpr c2
   have c2b1 : (a0 != 1) = true := bne_iff_ne.mpr c2
   by_cases c3 : a0 = 8
   · rw [if_pos c3] at H
     have c3b0 : (a0 == 8) = true := beq_iff_eq.mpr c3
     have c3b1 : (a0 != 8) = false := bne_eq_false_iff_eq.mpr c3
     clear c3
     obtain rfl := Option.some.inj H
     go_enter Tryd.func46, Tryd.ntmps46
     go_wp2
     go_ret
     exact ⟨by first | rfl | (simp; done) | (simp [*]; done), by repeat (first | exact Drawn0.refl _ | apply Drawn0.step)⟩
   · rw [if_neg c3] at H
     have c3b0 : (a0 == 8) = false := beq_eq_false_iff_ne.mpr c3
     have c3b1 : (a0 != 8) = true := bne_iff_ne.mpr c3
     by_cases c4 : a0 = 16
     · rw [if_pos c4] at H
       have c4b0 : (a0 == 16) = true := beq_iff_eq.mpr c4
       have c4b1 : (a0 != 16) = false := bne_eq_false_iff_eq.mpr c4
       clear c4
       obtain rfl := Option.some.inj H
       go_enter Tryd.func46, Tryd.ntmps46
       go_wp2
       go_ret
       exact ⟨by first | rfl | (simp; done) | (simp [*]; done), by repeat (first | exact Drawn0.refl _ | apply Drawn0.step)⟩
     · rw [if_neg c4] at H
       have c4b0 : (a0 == 16) = false := beq_eq_false_iff_ne.mpr c4
       have c4b1 : (a0 != 16) = true := bne_iff_ne.mpr c4
       by_cases c5 : a0 = 32
       · rw [if_pos c5] at H
         have c5b0 : (a0 == 32) = true := beq_iff_eq.mpr c5
         have c5b1 : (a0 != 32) = false := bne_eq_false_iff_eq.mpr c5
         clear c5
         obtain rfl := Option.some.inj H
         go_enter Tryd.func46, Tryd.ntmps46
         go_wp2
         go_ret
         exact ⟨by first | rfl | (simp; done) | (simp [*]; done), by repeat (first | exact Drawn0.refl _ | apply Drawn0.step)⟩
       · rw [if_neg c5] at H
         have c5b0 : (a0 == 32) = false := beq_eq_false_iff_ne.mpr c5
         have c5b1 : (a0 != 32) = true := bne_iff_ne.mpr c5
         obtain rfl := Option.some.inj H
         go_enter Tryd.func46, Tryd.ntmps46
         go_wp2
         go_ret
         exact ⟨by first | rfl | (simp; done) | (simp [*]; done), by repeat (first | exact Drawn0.refl _ | apply Drawn0.step)⟩

end Go.Proofs.YtkohjiajbdkcbaaDoor.All


namespace Go.Proofs.YtkohjiajbdkcbaaDoor.All
open Go.RowKit Go.Proofs.YtkohjiajbdkcbaaDoorW.PrintWords Go.Proofs.YtkohjiajbdkcbaaDoorW.PrintLast Go.Proofs.YtkohjiajbdkcbaaDoorW.PrintMore
attribute [local go_sem] max2_int min2_int max_two min_two max_three min_three max_four min_four   -- for this text's walks alone
set_option linter.unusedVariables false
set_option linter.unusedSimpArgs false

/-! ### impl_mask: function 49 -/
def impl_mask.f (a0 : Int) : Option (Int) := if 0 ≤ (wrap64 (64 - a0)) then (some (shr .u64 18446744073709551615 (wrap64 (64 - a0)))) else (none)
set_option maxHeartbeats 8000000 in
set_option maxRecDepth 100000 in
theorem impl_mask.calls (a0 : Int) (r : Int) (w : World) (h : impl_mask.f a0 = some r) :
 Calls Tryd.prog 49 #[.int .i64 a0] w fun e w' => e = .returned (.int .u64 r) ∧ Drawn0 w w' := by
 have H : (if 0 ≤ (wrap64 (64 - a0)) then (some (shr .u64 18446744073709551615 (wrap64 (64 - a0)))) else (none)) = some r := h
 clear h
 obtain ⟨ji2, hji2⟩ : ∃ j_ : Int, (wrap64 (64 - a0)) = j_ := ⟨_, rfl⟩
 replace H : (if 0 ≤ (ji2) then (some (shr .u64 18446744073709551615 (ji2))) else (none)) = some r := by first | (rw [hji2] at H; exact H) | (simp only [hji2] at H ⊢; exact H)
 have hji2w : (IntKind.i64.wrap (64 - a0)) = ji2 := (i64_w _).trans hji2
 by_cases c3 : 0 ≤ (ji2)
 · rw [if_pos c3] at H
   have c3b0 := eq_true c3
   have c3b1 : decide (0 ≤ (ji2)) = true := decide_eq_true c3
   clear c3
   obtain ⟨ji4, hji4⟩ : ∃ j_ : Int, (shr .u64 18446744073709551615 (ji2)) = j_ := ⟨_, rfl⟩
   replace H : (some ji4) = some r := by first | (rw [hji4] at H; exact H) | (simp only [hji4] at H ⊢; exact H)
   have hji4_ : (18446744073709551615 / 2 ^ min (ji2).toNat 64) = ji4 := hji4
   have hji4z : (ji2) ≤ 64 → (18446744073709551615 / 2 ^ (ji2).toNat) = ji4 := shr_small hji4
   obtain rfl := Option.some.inj H
   go_enter Tryd.func49, Tryd.ntmps49
   go_wp2
   go_ret
   exact ⟨by first | rfl | (simp; done) | (simp only [← hji2, ← hji4] <;> (first | rfl | simp)) | (simp [*]; done), by repeat (first | exact Drawn0.refl _ | apply Drawn0.step)⟩
 · rw [if_neg c3] at H
   exact absurd H (by simp)

end Go.Proofs.YtkohjiajbdkcbaaDoor.All


namespace Go.Proofs.YtkohjiajbdkcbaaDoor.All
open Go.RowKit Go.Proofs.YtkohjiajbdkcbaaDoorW.PrintWords Go.Proofs.YtkohjiajbdkcbaaDoorW.PrintLast Go.Proofs.YtkohjiajbdkcbaaDoorW.PrintMore
attribute [local go_sem] max2_int min2_int max_two min_two max_three min_three max_four min_four   -- for this text's walks alone
set_option linter.unusedVariables false
set_option linter.unusedSimpArgs false

/-! ### impl_Cut: function 21 -/
def impl_Cut.f (a0 : Int) (a1 : Int) : Option (Int) := (impl_ValidWidth.f a0).bind fun t124 => (if t124 = true then ((impl_mask.f a0).bind fun t125 => (some (Go.bits .and .u64 a1 t125))) else (some 0))
set_option maxHeartbeats 8000000 in
set_option maxRecDepth 100000 in
theorem impl_Cut.calls (a0 : Int) (a1 : Int) (r : Int) (w : World) (h : impl_Cut.f a0 a1 = some r) :
 Calls Tryd.prog 21 #[.int .i64 a0, .int .u64 a1] w fun e w' => e = .returned (.int .u64 r) ∧ Drawn0 w w' := by
 have H : ((impl_ValidWidth.f a0).bind fun t124 => (if t124 = true then ((impl_mask.f a0).bind fun t125 => (some (Go.bits .and .u64 a1 t125))) else (some 0))) = some r := h
 clear h
 replace H := Option.bind_eq_some_iff.mp H
 obtain ⟨t124, A30, H⟩ := H
 replace H : (if t124 = true then ((impl_mask.f a0).bind fun t125 => (some (Go.bits .and .u64 a1 t125))) else (some 0)) = some r := H
 have A3 := Aside0.mk A30
 clear A30
 by_cases c4 : t124 = true
 · subst c4
   have H1 : ((impl_mask.f a0).bind fun t125 => (some (Go.bits .and .u64 a1 t125))) = some r := by rw [if_pos rfl] at H; exact H
   clear H
   have H := H1
   clear H1
   replace H := Option.bind_eq_some_iff.mp H
   obtain ⟨t125, A50, H⟩ := H
   replace H : (some (Go.bits .and .u64 a1 t125)) = some r := H
   have A5 := Aside0.mk A50
   clear A50
   obtain rfl := Option.some.inj H
   go_enter Tryd.func21, Tryd.ntmps21
   go_wp2_with (first | ((with_reducible refine gate_callee (f := 46) rfl ?_); refine goesL_ (some 6) rfl rfl Tryd.func46 (by kernel_rfl) rfl #[.int .i64 a0] rfl (by (try simp only [List.map_toArray, List.map_cons, List.map_nil]); first | done | rfl | (simp only [List.length_drop, List.length_take]; rfl)) ?_; (with_reducible refine (impl_ValidWidth.calls a0 true _ A3.out).mono ?_); rintro e w' ⟨rfl, ⟨nd, rfl⟩⟩; refine ⟨_, rfl, ?_⟩) | ((with_reducible refine gate_callee (f := 49) rfl ?_); refine goesL_ (some 10) rfl rfl Tryd.func49 (by kernel_rfl) rfl #[.int .i64 a0] rfl (by (try simp only [List.map_toArray, List.map_cons, List.map_nil]); first | done | rfl | (simp only [List.length_drop, List.length_take]; rfl)) ?_; (with_reducible refine (impl_mask.calls a0 t125 _ A5.out).mono ?_); rintro e w' ⟨rfl, ⟨nd, rfl⟩⟩; refine ⟨_, rfl, ?_⟩))
   go_ret
   exact ⟨by first | rfl | (simp; done) | (simp [*]; done), by repeat (first | exact Drawn0.refl _ | apply Drawn0.step)⟩
 · replace c4 := Bool.eq_false_iff.mpr c4
   subst c4
   have H1 : (some 0) = some r := by rw [if_neg (show ¬ (false = true) by decide)] at H; exact H
   clear H
   have H := H1
   clear H1
   obtain rfl := Option.some.inj H
   go_enter Tryd.func21, Tryd.ntmps21
   go_wp2_with (first | ((with_reducible refine gate_callee (f := 46) rfl ?_); refine goesL_ (some 6) rfl rfl Tryd.func46 (by kernel_rfl) rfl #[.int .i64 a0] rfl (by (try simp only [List.map_toArray, List.map_cons, List.map_nil]); first | done | rfl | (simp only [List.length_drop, List.length_take]; rfl)) ?_; (with_reducible refine (impl_ValidWidth.calls a0 false _ A3.out).mono ?_); rintro e w' ⟨rfl, ⟨nd, rfl⟩⟩; refine ⟨_, rfl, ?_⟩))
   go_ret
   exact ⟨by first | rfl | (simp; done) | (simp [*]; done), by repeat (first | exact Drawn0.refl _ | apply Drawn0.step)⟩

end Go.Proofs.YtkohjiajbdkcbaaDoor.All


namespace Go.Proofs.YtkohjiajbdkcbaaDoor.All
open Go.RowKit Go.Proofs.YtkohjiajbdkcbaaDoorW.PrintWords Go.Proofs.YtkohjiajbdkcbaaDoorW.PrintLast Go.Proofs.YtkohjiajbdkcbaaDoorW.PrintMore
attribute [local go_sem] max2_int min2_int max_two min_two max_three min_three max_four min_four   -- for this text's walks alone
set_option linter.unusedVariables false
set_option linter.unusedSimpArgs false

/-! ### impl_isWord: function 48 -/
def impl_isWord.f (a0 : Int) (a1 : Int) : Option (Bool) := (impl_ValidWidth.f a0).bind fun t126 => (if t126 = true then ((impl_mask.f a0).bind fun t127 => (some ((Go.bits .andNot .u64 a1 t127) == 0))) else (some false))
set_option maxHeartbeats 8000000 in
set_option maxRecDepth 100000 in
theorem impl_isWord.calls (a0 : Int) (a1 : Int) (r : Bool) (w : World) (h : impl_isWord.f a0 a1 = some r) :
 Calls Tryd.prog 48 #[.int .i64 a0, .int .u64 a1] w fun e w' => e = .returned (.bool r) ∧ Drawn0 w w' := by
 have H : ((impl_ValidWidth.f a0).bind fun t126 => (if t126 = true then ((impl_mask.f a0).bind fun t127 => (some ((Go.bits .andNot .u64 a1 t127) == 0))) else (some false))) = some r := h
 clear h
 replace H := Option.bind_eq_some_iff.mp H
 obtain ⟨t126, A30, H⟩ := H
 replace H : (if t126 = true then ((impl_mask.f a0).bind fun t127 => (some ((Go.bits .andNot .u64 a1 t127) == 0))) else (some false)) = some r := H
 have A3 := Aside0.mk A30
 clear A30
 by_cases c4 : t126 = true
 · subst c4
   have H1 : ((impl_mask.f a0).bind fun t127 => (some ((Go.bits .andNot .u64 a1 t127) == 0))) = some r := by rw [if_pos rfl] at H; exact H
   clear H
   have H := H1
   clear H1
   replace H := Option.bind_eq_some_iff.mp H
   obtain ⟨t127, A50, H⟩ := H
   replace H : (some ((Go.bits .andNot .u64 a1 t127) == 0)) = some r := H
   have A5 := Aside0.mk A50
   clear A50
   obtain rfl := Option.some.inj H
   go_enter Tryd.func48, Tryd.ntmps48
   go_wp2_with (first | ((with_reducible refine gate_callee (f := 46) rfl ?_); refine goesL_ (some 6) rfl rfl Tryd.func46 (by kernel_rfl) rfl #[.int .i64 a0] rfl (by (try simp only [List.map_toArray, List.map_cons, List.map_nil]); first | done | rfl | (simp only [List.length_drop, List.length_take]; rfl)) ?_; (with_reducible refine (impl_ValidWidth.calls a0 true _ A3.out).mono ?_); rintro e w' ⟨rfl, ⟨nd, rfl⟩⟩; refine ⟨_, rfl, ?_⟩) | (go_at_call 49; (with_reducible refine (impl_mask.calls a0 t127 _ A5.out).mono ?_); rintro e w' ⟨rfl, ⟨nd, rfl⟩⟩))
   go_ret
   exact ⟨by first | rfl | (simp; done) | (simp [*]; done), by repeat (first | exact Drawn0.refl _ | apply Drawn0.step)⟩
 · replace c4 := Bool.eq_false_iff.mpr c4
   subst c4
   have H1 : (some false) = some r := by rw [if_neg (show ¬ (false = true) by decide)] at H; exact H
   clear H
   have H := H1
   clear H1
   obtain rfl := Option.some.inj H
   go_enter Tryd.func48, Tryd.ntmps48
   go_wp2_with (first | ((with_reducible refine gate_callee (f := 46) rfl ?_); refine goesL_ (some 6) rfl rfl Tryd.func46 (by kernel_rfl) rfl #[.int .i64 a0] rfl (by (try simp only [List.map_toArray, List.map_cons, List.map_nil]); first | done | rfl | (simp only [List.length_drop, List.length_take]; rfl)) ?_; (with_reducible refine (impl_ValidWidth.calls a0 false _ A3.out).mono ?_); rintro e w' ⟨rfl, ⟨nd, rfl⟩⟩; refine ⟨_, rfl, ?_⟩))
   go_ret
   exact ⟨by first | rfl | (simp; done) | (simp [*]; done), by repeat (first | exact Drawn0.refl _ | apply Drawn0.step)⟩

end Go.Proofs.YtkohjiajbdkcbaaDoor.All


namespace Go.Proofs.YtkohjiajbdkcbaaDoor.All
open Go.RowKit Go.Proofs.YtkohjiajbdkcbaaDoorW.PrintWords Go.Proofs.YtkohjiajbdkcbaaDoorW.PrintLast Go.Proofs.YtkohjiajbdkcbaaDoorW.PrintMore
attribute [local go_sem] max2_int min2_int max_two min_two max_three min_three max_four min_four   -- for this text's walks alone
set_option linter.unusedVariables false
set_option linter.unusedSimpArgs false

/-! ### impl_Signed: function 20 -/
def impl_Signed.f (a0 : Int) (a1 : Int) : Option (Int) := (impl_isWord.f a0 a1).bind fun t128 => (if t128 = true then (if 0 ≤ (wrap64 (64 - a0)) then (some (shr .i64 (wrap64 (shl .u64 a1 (wrap64 (64 - a0)))) (wrap64 (64 - a0)))) else (none)) else (some 0))
set_option maxHeartbeats 8000000 in
set_option maxRecDepth 100000 in
theorem impl_Signed.calls (a0 : Int) (a1 : Int) (r : Int) (w : World) (h : impl_Signed.f a0 a1 = some r) :
 Calls Tryd.prog 20 #[.int .i64 a0, .int .u64 a1] w fun e w' => e = .returned (.int .i64 r) ∧ Drawn0 w w' := by
 have H : ((impl_isWord.f a0 a1).bind fun t128 => (if t128 = true then (if 0 ≤ (wrap64 (64 - a0)) then (some (shr .i64 (wrap64 (shl .u64 a1 (wrap64 (64 - a0)))) (wrap64 (64 - a0)))) else (none)) else (some 0))) = some r := h
 clear h
 replace H := Option.bind_eq_some_iff.mp H
 obtain ⟨t128, A30, H⟩ := H
 replace H : (if t128 = true then (if 0 ≤ (wrap64 (64 - a0)) then (some (shr .i64 (wrap64 (shl .u64 a1 (wrap64 (64 - a0)))) (wrap64 (64 - a0)))) else (none)) else (some 0)) = some r := H
 have A3 := Aside0.mk A30
 clear A30
 by_cases c4 : t128 = true
 · subst c4
   have H1 : (if 0 ≤ (wrap64 (64 - a0)) then (some (shr .i64 (wrap64 (shl .u64 a1 (wrap64 (64 - a0)))) (wrap64 (64 - a0)))) else (none)) = some r := by rw [if_pos rfl] at H; exact H
   clear H
   have H := H1
   clear H1
   obtain ⟨ji5, hji5⟩ : ∃ j_ : Int, (wrap64 (64 - a0)) = j_ := ⟨_, rfl⟩
   replace H : (if 0 ≤ (ji5) then (some (shr .i64 (wrap64 (shl .u64 a1 (ji5))) (ji5))) else (none)) = some r := by first | (rw [hji5] at H; exact H) | (simp only [hji5] at H ⊢; exact H)
   (try rw [hji5] at A3)
   have hji5w : (IntKind.i64.wrap (64 - a0)) = ji5 := (i64_w _).trans hji5
   by_cases c6 : 0 ≤ (ji5)
   · rw [if_pos c6] at H
     have c6b0 := eq_true c6
     have c6b1 : decide (0 ≤ (ji5)) = true := decide_eq_true c6
     clear c6
     obtain ⟨ji7, hji7⟩ : ∃ j_ : Int, (shl .u64 a1 (ji5)) = j_ := ⟨_, rfl⟩
     replace H : (some (shr .i64 (wrap64 (ji7)) (ji5))) = some r := by first | (rw [hji7] at H; exact H) | (simp only [hji7] at H ⊢; exact H)
     (try rw [hji7] at A3)
     have hji7_ : (IntKind.u64.wrap (a1 * 2 ^ min (ji5).toNat 64)) = ji7 := hji7
     have hji7z : (ji5) ≤ 64 → (IntKind.u64.wrap (a1 * 2 ^ (ji5).toNat)) = ji7 := shl_small hji7
     have c8b0 := eq_true (of_decide_eq_true (by first | (with_reducible assumption) | assumption) : 0 ≤ (ji5))
     obtain ⟨ji9, hji9⟩ : ∃ j_ : Int, (shr .i64 (wrap64 (ji7)) (ji5)) = j_ := ⟨_, rfl⟩
     replace H : (some ji9) = some r := by first | (rw [hji9] at H; exact H) | (simp only [hji9] at H ⊢; exact H)
     (try rw [hji9] at A3)
     have hji9_ : ((wrap64 (ji7)) / 2 ^ min (ji5).toNat 64) = ji9 := hji9
     have hji9z : (ji5) ≤ 64 → ((wrap64 (ji7)) / 2 ^ (ji5).toNat) = ji9 := shr_small hji9
     obtain rfl := Option.some.inj H
     go_enter Tryd.func20, Tryd.ntmps20
     go_wp2_with (first | ((with_reducible refine gate_callee (f := 48) rfl ?_); refine goesL_ (some 7) rfl rfl Tryd.func48 (by kernel_rfl) rfl #[.int .i64 a0, .int .u64 a1] rfl (by (try simp only [List.map_toArray, List.map_cons, List.map_nil]); first | done | rfl | (simp only [List.length_drop, List.length_take]; rfl)) ?_; (with_reducible refine (impl_isWord.calls a0 a1 true _ A3.out).mono ?_); rintro e w' ⟨rfl, ⟨nd, rfl⟩⟩; refine ⟨_, rfl, ?_⟩))
     go_ret
     exact ⟨by first | rfl | (simp; done) | (simp only [← hji5, ← hji7, ← hji9] <;> (first | rfl | simp)) | (simp [*]; done), by repeat (first | exact Drawn0.refl _ | apply Drawn0.step)⟩
   · rw [if_neg c6] at H
     exact absurd H (by simp)
 · replace c4 := Bool.eq_false_iff.mpr c4
   subst c4
   have H1 : (some 0) = some r := by rw [if_neg (show ¬ (false = true) by decide)] at H; exact H
   clear H
   have H := H1
   clear H1
   obtain rfl := Option.some.inj H
   go_enter Tryd.func20, Tryd.ntmps20
   go_wp2_with (first | ((with_reducible refine gate_callee (f := 48) rfl ?_); refine goesL_ (some 7) rfl rfl Tryd.func48 (by kernel_rfl) rfl #[.int .i64 a0, .int .u64 a1] rfl (by (try simp only [List.map_toArray, List.map_cons, List.map_nil]); first | done | rfl | (simp only [List.length_drop, List.length_take]; rfl)) ?_; (with_reducible refine (impl_isWord.calls a0 a1 false _ A3.out).mono ?_); rintro e w' ⟨rfl, ⟨nd, rfl⟩⟩; refine ⟨_, rfl, ?_⟩))
   go_ret
   exact ⟨by first | rfl | (simp; done) | (simp [*]; done), by repeat (first | exact Drawn0.refl _ | apply Drawn0.step)⟩

end Go.Proofs.YtkohjiajbdkcbaaDoor.All


/- Contracts of Go's library at this translation: laid by the shelf's lay-shelf.mjs and lay-plain.mjs, those that this session's claims use. -/
namespace Go.Proofs
open Go.Shelf
set_option linter.unusedVariables false
def Tryd.laysM173_ren : Go.Shelf.Ren := ⟨fun | 173 => 39 | 246 => 76 | 283 => 97 | 284 => 98 | 285 => 99 | 286 => 100 | 129 => 121 | 317 => 120 | 318 => 122 | 319 => 123 | 320 => 124 | 337 => 132 | 338 => 133 | n => n, fun | 2 => 2 | 3 => 3 | 9 => 9 | 4 => 4 | 171 => 153 | 0 => 0 | 53 => 22 | 37 => 41 | 5 => 5 | 173 => 156 | 212 => 171 | 51 => 138 | 20 => 20 | 213 => 172 | 46 => 100 | 232 => 197 | 233 => 198 | n => n, fun | 17 => 0 | 18 => 3 | 19 => 4 | n => n⟩
theorem Tryd.laysM173 : Go.Proofs.LaysM.n173 Tryd.prog Tryd.laysM173_ren := {
  mixed := by kernel_rfl
  f129 := Tryd.func121.trans (congrArg some (by kernel_rfl))
  f173 := Tryd.func39.trans (congrArg some (by kernel_rfl))
  f246 := Tryd.func76.trans (congrArg some (by kernel_rfl))
  f283 := Tryd.func97.trans (congrArg some (by kernel_rfl))
  f284 := Tryd.func98.trans (congrArg some (by kernel_rfl))
  f285 := Tryd.func99.trans (congrArg some (by kernel_rfl))
  f286 := Tryd.func100.trans (congrArg some (by kernel_rfl))
  f317 := Tryd.func120.trans (congrArg some (by kernel_rfl))
  f318 := Tryd.func122.trans (congrArg some (by kernel_rfl))
  f319 := Tryd.func123.trans (congrArg some (by kernel_rfl))
  f320 := Tryd.func124.trans (congrArg some (by kernel_rfl))
  f337 := Tryd.func132.trans (congrArg some (by kernel_rfl))
  f338 := Tryd.func133.trans (congrArg some (by kernel_rfl))
  t0 := Tryd.underlying0
  a0 := Tryd.isAgg0
  z0 := Tryd.sizeOf0
  v0 := Tryd.zeroValue0
  t2 := Tryd.underlying2
  a2 := Tryd.isAgg2
  z2 := Tryd.sizeOf2
  v2 := Tryd.zeroValue2
  t3 := Tryd.underlying3
  a3 := Tryd.isAgg3
  z3 := Tryd.sizeOf3
  v3 := Tryd.zeroValue3
  t4 := Tryd.underlying4
  a4 := Tryd.isAgg4
  z4 := Tryd.sizeOf4
  v4 := Tryd.zeroValue4
  t5 := Tryd.underlying5
  a5 := Tryd.isAgg5
  z5 := Tryd.sizeOf5
  v5 := Tryd.zeroValue5
  t9 := Tryd.underlying9
  a9 := Tryd.isAgg9
  z9 := Tryd.sizeOf9
  v9 := Tryd.zeroValue9
  t20 := Tryd.underlying20
  a20 := Tryd.isAgg20
  z20 := Tryd.sizeOf20
  v20 := Tryd.zeroValue20
  t37 := Tryd.underlying41
  a37 := Tryd.isAgg41
  z37 := Tryd.sizeOf41
  v37 := Tryd.zeroValue41
  t46 := Tryd.underlying100
  a46 := Tryd.isAgg100
  z46 := Tryd.sizeOf100
  v46 := Tryd.zeroValue100
  t51 := Tryd.underlying138
  a51 := Tryd.isAgg138
  z51 := Tryd.sizeOf138
  v51 := Tryd.zeroValue138
  t53 := Tryd.underlying22
  a53 := Tryd.isAgg22
  z53 := Tryd.sizeOf22
  v53 := Tryd.zeroValue22
  t171 := Tryd.underlying153
  a171 := Tryd.isAgg153
  z171 := Tryd.sizeOf153
  v171 := Tryd.zeroValue153
  t173 := Tryd.underlying156
  a173 := Tryd.isAgg156
  z173 := Tryd.sizeOf156
  v173 := Tryd.zeroValue156
  t212 := Tryd.underlying171
  a212 := Tryd.isAgg171
  z212 := Tryd.sizeOf171
  v212 := Tryd.zeroValue171
  t213 := Tryd.underlying172
  a213 := Tryd.isAgg172
  z213 := Tryd.sizeOf172
  t232 := Tryd.underlying197
  a232 := Tryd.isAgg197
  z232 := Tryd.sizeOf197
  v232 := Tryd.zeroValue197
  t233 := Tryd.underlying198
  a233 := Tryd.isAgg198
  z233 := Tryd.sizeOf198
  v233 := Tryd.zeroValue198
  g17 := by kernel_rfl
  g18 := by kernel_rfl
  g19 := by kernel_rfl
  i0 := by kernel_rfl
  i2 := by kernel_rfl
  i3 := by kernel_rfl
  i4 := by kernel_rfl
  i5 := by kernel_rfl
  i9 := by kernel_rfl
  i20 := by kernel_rfl
  i37 := by kernel_rfl
  i46 := by kernel_rfl
  i51 := by kernel_rfl
  i53 := by kernel_rfl
  i171 := by kernel_rfl
  i173 := by kernel_rfl
  i212 := by kernel_rfl
  i232 := by kernel_rfl
  i233 := by kernel_rfl
  m17 := by kernel_rfl
  m18 := by kernel_rfl
  m19 := by kernel_rfl }
open Go.RowKit Go.Sort Go.Lib in
theorem Tryd.strconv_FormatInt_10 (n : Int) (h0 : -9223372036854775808 ≤ n) (h1 : n ≤ 9223372036854775807) (w : World) (htab : Lib.TabIs Tryd.prog w "internal/strconv.uint64pow10" .u64 Lib.pow10Tab) :
    Calls Tryd.prog 39 #[.int .i64 n, .int .i64 10] w fun e w' => e = .returned (.string ⟨(Lib.itoa n).toArray⟩) ∧ ∃ k os, w' = grow (w.drewN k) os := Any.strconv_FormatInt_10 Tryd.laysM173 n h0 h1 w htab
end Go.Proofs


namespace Go.Proofs.YtkohjiajbdkcbaaDoor.All
open Go.RowKit Go.Proofs.YtkohjiajbdkcbaaDoorW.PrintWords Go.Proofs.YtkohjiajbdkcbaaDoorW.PrintLast Go.Proofs.YtkohjiajbdkcbaaDoorW.PrintMore
attribute [local go_sem] max2_int min2_int max_two min_two max_three min_three max_four min_four   -- for this text's walks alone
set_option linter.unusedVariables false
set_option linter.unusedSimpArgs false

/-! ### strconv_FormatInt_39: function 39 -/
def strconv_FormatInt_39.f (a0 : Int) (a1 : Int) : Option (ByteArray) := if -9223372036854775808 ≤ a0 then (if a0 ≤ 9223372036854775807 then (if a1 = 10 then some (⟨(Lib.itoa a0).toArray⟩ : ByteArray) else none) else none) else none
theorem strconv_FormatInt_39.calls (a0 : Int) (a1 : Int) (r : ByteArray) (w : World) (ht : LtTab w) (h : strconv_FormatInt_39.f a0 a1 = some r) :
 Calls Tryd.prog 39 #[.int .i64 a0, .int .i64 a1] w fun e w' => e = .returned (.string r) ∧ Below w.heap.size w w' := by
 unfold strconv_FormatInt_39.f at h
 by_cases h0 : -9223372036854775808 ≤ a0
 · by_cases h1 : a0 ≤ 9223372036854775807
   · by_cases h2 : a1 = 10
     · subst h2
       rw [if_pos h0, if_pos h1, if_pos rfl] at h
       obtain rfl := Option.some.inj h
       refine (Tryd.strconv_FormatInt_10 a0 h0 h1 w ht.here).mono ?_
       rintro e w' ⟨he, q, os, rfl⟩
       exact ⟨he, below_grow w q os⟩
     · rw [if_pos h0, if_pos h1, if_neg h2] at h
       cases h
   · rw [if_pos h0, if_neg h1] at h
     cases h
 · rw [if_neg h0] at h
   cases h

end Go.Proofs.YtkohjiajbdkcbaaDoor.All


/- Contracts of Go's library at this translation: laid by the shelf's lay-shelf.mjs and lay-plain.mjs, those that this session's claims use. -/
namespace Go.Proofs
open Go.Shelf
set_option linter.unusedVariables false
def Tryd.lays283_ren : Go.Shelf.Ren := ⟨fun | 283 => 97 | n => n, fun | 3 => 3 | 9 => 9 | 4 => 4 | n => n, fun | n => n⟩
theorem Tryd.lays283 : Go.Proofs.Lays.n283 Tryd.prog Tryd.lays283_ren := {
  mixed := by kernel_rfl
  f283 := Tryd.func97.trans (congrArg some (by kernel_rfl))
  t3 := Tryd.underlying3
  a3 := Tryd.isAgg3
  z3 := Tryd.sizeOf3
  v3 := Tryd.zeroValue3
  t4 := Tryd.underlying4
  a4 := Tryd.isAgg4
  z4 := Tryd.sizeOf4
  v4 := Tryd.zeroValue4
  t9 := Tryd.underlying9
  a9 := Tryd.isAgg9
  z9 := Tryd.sizeOf9
  v9 := Tryd.zeroValue9 }
open Go.Lib in
theorem Tryd.internal_strconv_small (i : Nat) (h : i < 100) (w : World) :
    Calls Tryd.prog 97 #[.int .i64 i] w fun e w' => e = .returned (.string ⟨(Lib.decDigits i).toArray⟩) ∧ w' = w := Any.internal_strconv_small Tryd.lays283 i h w
end Go.Proofs


namespace Go.Proofs.YtkohjiajbdkcbaaDoor.All
open Go.RowKit Go.Proofs.YtkohjiajbdkcbaaDoorW.PrintWords Go.Proofs.YtkohjiajbdkcbaaDoorW.PrintLast Go.Proofs.YtkohjiajbdkcbaaDoorW.PrintMore
attribute [local go_sem] max2_int min2_int max_two min_two max_three min_three max_four min_four   -- for this text's walks alone
set_option linter.unusedVariables false
set_option linter.unusedSimpArgs false

/-! ### strconv_FormatUint_50: function 50 -/
def strconv_FormatUint_50.f (a0 : Int) (a1 : Int) : Option (ByteArray) := if 0 ≤ a0 then (if a0 < 100 then (if a1 = 10 then some (⟨(Lib.decDigits a0.toNat).toArray⟩ : ByteArray) else none) else none) else none
set_option maxRecDepth 100000 in
theorem strconv_FormatUint_50.inner (i : Nat) (hi : i < 100) (w : World) :
 Calls Tryd.prog 81 #[.int .u64 (i : Int), .int .i64 10] w fun e w' => e = .returned (.string (⟨(Lib.decDigits i).toArray⟩ : ByteArray)) ∧ w' = w := by
 have c1 : decide ((i : Int) < 100) = true := decide_eq_true (by omega)
 have hw : IntKind.i64.wrap (i : Int) = (i : Int) := IntWalk.i64_in _ (by omega)
 go_enter Tryd.func81, Tryd.ntmps81
 go_wp2_with (go_at_call 97; refine (Tryd.internal_strconv_small i hi _).mono ?_; rintro e w' ⟨rfl, rfl⟩)
 go_ret
 exact ⟨rfl, rfl⟩
set_option maxRecDepth 100000 in
theorem strconv_FormatUint_50.calls (a0 : Int) (a1 : Int) (r : ByteArray) (w : World) (h : strconv_FormatUint_50.f a0 a1 = some r) :
 Calls Tryd.prog 50 #[.int .u64 a0, .int .i64 a1] w fun e w' => e = .returned (.string r) ∧ Drawn0 w w' := by
 unfold strconv_FormatUint_50.f at h
 by_cases h0 : 0 ≤ a0
 · by_cases h1 : a0 < 100
   · by_cases h2 : a1 = 10
     · subst h2
       rw [if_pos h0, if_pos h1, if_pos rfl] at h
       obtain rfl := Option.some.inj h
       obtain ⟨i, rfl⟩ : ∃ i : Nat, a0 = (i : Int) := ⟨a0.toNat, by omega⟩
       have hi : i < 100 := by omega
       clear h h0 h1
       go_enter Tryd.func50, Tryd.ntmps50
       go_wp2_with (go_at_call 81; refine (strconv_FormatUint_50.inner i hi _).mono ?_; rintro e w' ⟨rfl, rfl⟩)
       go_ret
       exact ⟨rfl, Drawn0.refl _⟩
     · rw [if_pos h0, if_pos h1, if_neg h2] at h
       cases h
   · rw [if_pos h0, if_neg h1] at h
     cases h
 · rw [if_neg h0] at h
   cases h

end Go.Proofs.YtkohjiajbdkcbaaDoor.All


namespace Go.Proofs.YtkohjiajbdkcbaaDoor.All
open Go.RowKit Go.Proofs.YtkohjiajbdkcbaaDoorW.PrintWords Go.Proofs.YtkohjiajbdkcbaaDoorW.PrintLast Go.Proofs.YtkohjiajbdkcbaaDoorW.PrintMore
attribute [local go_sem] max2_int min2_int max_two min_two max_three min_three max_four min_four   -- for this text's walks alone
set_option linter.unusedVariables false
set_option linter.unusedSimpArgs false

/-! ### impl_FormatWord: function 22 -/
def impl_FormatWord.f (a0 : Int) (a1 : Int) : Option (ByteArray) := (impl_isWord.f a0 a1).bind fun t149 => (if t149 = true then (if a0 = 1 then ((strconv_FormatUint_50.f a1 10).bind fun t150 => (some t150)) else ((impl_Signed.f a0 a1).bind fun t151 => ((strconv_FormatInt_39.f t151 10).bind fun t152 => (some t152)))) else (some (⟨#[]⟩ : ByteArray)))
set_option maxHeartbeats 8000000 in
set_option maxRecDepth 100000 in
theorem impl_FormatWord.calls (a0 : Int) (a1 : Int) (r : ByteArray) (w : World) (hLtTab : LtTab w) (h : impl_FormatWord.f a0 a1 = some r) :
 Calls Tryd.prog 22 #[.int .i64 a0, .int .u64 a1] w fun e w' => e = .returned (.string r) ∧ Below w.heap.size w w' := by
 have HLtTab := Aside0.mk hLtTab
 clear hLtTab
 have HB := Aside0.mk (Below.refl w.heap.size w)
 have H : ((impl_isWord.f a0 a1).bind fun t149 => (if t149 = true then (if a0 = 1 then ((strconv_FormatUint_50.f a1 10).bind fun t150 => (some t150)) else ((impl_Signed.f a0 a1).bind fun t151 => ((strconv_FormatInt_39.f t151 10).bind fun t152 => (some t152)))) else (some (⟨#[]⟩ : ByteArray)))) = some r := h
 clear h
 replace H := Option.bind_eq_some_iff.mp H
 obtain ⟨t149, A30, H⟩ := H
 replace H : (if t149 = true then (if a0 = 1 then ((strconv_FormatUint_50.f a1 10).bind fun t150 => (some t150)) else ((impl_Signed.f a0 a1).bind fun t151 => ((strconv_FormatInt_39.f t151 10).bind fun t152 => (some t152)))) else (some (⟨#[]⟩ : ByteArray))) = some r := H
 have A3 := Aside0.mk A30
 clear A30
 by_cases c4 : t149 = true
 · subst c4
   have H1 : (if a0 = 1 then ((strconv_FormatUint_50.f a1 10).bind fun t150 => (some t150)) else ((impl_Signed.f a0 a1).bind fun t151 => ((strconv_FormatInt_39.f t151 10).bind fun t152 => (some t152)))) = some r := by rw [if_pos rfl] at H; exact H
   clear H
   have H := H1
   clear H1
   by_cases c5 : a0 = 1
   · rw [if_pos c5] at H
     have c5b0 : (a0 == 1) = true := beq_iff_eq.mpr c5
     have c5b1 : (a0 != 1) = false := bne_eq_false_iff_eq.mpr c5
     clear c5
     replace H := Option.bind_eq_some_iff.mp H
     obtain ⟨t150, A60, H⟩ := H
     replace H : (some t150) = some r := H
     have A6 := Aside0.mk A60
     clear A60
     obtain rfl := Option.some.inj H
     go_enter Tryd.func22, Tryd.ntmps22
     go_wp2_with (first | ((with_reducible refine gate_callee (f := 48) rfl ?_); refine goesL_ (some 7) rfl rfl Tryd.func48 (by kernel_rfl) rfl #[.int .i64 a0, .int .u64 a1] rfl (by (try simp only [List.map_toArray, List.map_cons, List.map_nil]); first | done | rfl | (simp only [List.length_drop, List.length_take]; rfl)) ?_; (with_reducible refine (impl_isWord.calls a0 a1 true _ A3.out).mono ?_); rintro e w' ⟨rfl, ⟨nd, rfl⟩⟩; refine ⟨_, rfl, ?_⟩) | ((with_reducible refine gate_callee (f := 50) rfl ?_); refine goesL_ (some 12) rfl rfl Tryd.func50 (by kernel_rfl) rfl #[.int .u64 a1, .int .i64 10] rfl (by (try simp only [List.map_toArray, List.map_cons, List.map_nil]); first | done | rfl | (simp only [List.length_drop, List.length_take]; rfl)) ?_; (with_reducible refine (strconv_FormatUint_50.calls a1 10 t150 _ A6.out).mono ?_); rintro e w' ⟨rfl, ⟨nd, rfl⟩⟩; refine ⟨_, rfl, ?_⟩))
     go_ret
     exact ⟨by first | rfl | (simp [errW_none, errW_some] <;> rfl) | (simp [*, errW_none, errW_some] <;> rfl), by repeat (first | (with_reducible first | exact HB.out | apply below_alloc | apply pw_below_drewN | apply below_drew1) | exact HB.out)⟩
   · rw [if_neg c5] at H
     have c5b0 : (a0 == 1) = false := beq_eq_false_iff_ne.mpr c5
     have c5b1 : (a0 != 1) = true := bne_iff_ne.mpr c5
     replace H := Option.bind_eq_some_iff.mp H
     obtain ⟨t151, A70, H⟩ := H
     replace H : ((strconv_FormatInt_39.f t151 10).bind fun t152 => (some t152)) = some r := H
     have A7 := Aside0.mk A70
     clear A70
     replace H := Option.bind_eq_some_iff.mp H
     obtain ⟨t152, A80, H⟩ := H
     replace H : (some t152) = some r := H
     have A8 := Aside0.mk A80
     clear A80
     obtain rfl := Option.some.inj H
     go_enter Tryd.func22, Tryd.ntmps22
     go_wp2_with (first | ((with_reducible refine gate_callee (f := 48) rfl ?_); refine goesL_ (some 7) rfl rfl Tryd.func48 (by kernel_rfl) rfl #[.int .i64 a0, .int .u64 a1] rfl (by (try simp only [List.map_toArray, List.map_cons, List.map_nil]); first | done | rfl | (simp only [List.length_drop, List.length_take]; rfl)) ?_; (with_reducible refine (impl_isWord.calls a0 a1 true _ A3.out).mono ?_); rintro e w' ⟨rfl, ⟨nd, rfl⟩⟩; refine ⟨_, rfl, ?_⟩) | ((with_reducible refine gate_callee (f := 20) rfl ?_); refine goesL_ (some 15) rfl rfl Tryd.func20 (by kernel_rfl) rfl #[.int .i64 a0, .int .u64 a1] rfl (by (try simp only [List.map_toArray, List.map_cons, List.map_nil]); first | done | rfl | (simp only [List.length_drop, List.length_take]; rfl)) ?_; (with_reducible refine (impl_Signed.calls a0 a1 t151 _ A7.out).mono ?_); rintro e w' ⟨rfl, ⟨nd, rfl⟩⟩; refine ⟨_, rfl, ?_⟩) | ((with_reducible refine gate_callee (f := 39) rfl ?_); refine goesL_ (some 16) rfl rfl Tryd.func39 (by kernel_rfl) rfl #[.int .i64 t151, .int .i64 10] rfl (by (try simp only [List.map_toArray, List.map_cons, List.map_nil]); first | done | rfl | (simp only [List.length_drop, List.length_take]; rfl)) ?_; (with_reducible refine (strconv_FormatInt_39.calls t151 10 t152 _ ?tLtTab A8.out).mono ?_); (case tLtTab => exact HLtTab.out.on (by repeat (first | (with_reducible first | exact HB.out | apply below_alloc | apply pw_below_drewN | apply below_drew1) | exact HB.out))); rintro e w9 ⟨rfl, hb⟩; refine ⟨_, rfl, ?_⟩; have n0_ := Aside0.mk (below_step (by repeat (first | (with_reducible first | exact HB.out | apply below_alloc | apply pw_below_drewN | apply below_drew1) | exact HB.out)) hb); clear HB; have HB := n0_; clear n0_; (try clear hb); (try clear hb2); (try clear hk); (try clear hi)))
     go_ret
     exact ⟨by first | rfl | (simp [errW_none, errW_some] <;> rfl) | (simp [*, errW_none, errW_some] <;> rfl), by repeat (first | (with_reducible first | exact HB.out | apply below_alloc | apply pw_below_drewN | apply below_drew1) | exact HB.out)⟩
 · replace c4 := Bool.eq_false_iff.mpr c4
   subst c4
   have H1 : (some (⟨#[]⟩ : ByteArray)) = some r := by rw [if_neg (show ¬ (false = true) by decide)] at H; exact H
   clear H
   have H := H1
   clear H1
   obtain rfl := Option.some.inj H
   go_enter Tryd.func22, Tryd.ntmps22
   go_wp2_with (first | ((with_reducible refine gate_callee (f := 48) rfl ?_); refine goesL_ (some 7) rfl rfl Tryd.func48 (by kernel_rfl) rfl #[.int .i64 a0, .int .u64 a1] rfl (by (try simp only [List.map_toArray, List.map_cons, List.map_nil]); first | done | rfl | (simp only [List.length_drop, List.length_take]; rfl)) ?_; (with_reducible refine (impl_isWord.calls a0 a1 false _ A3.out).mono ?_); rintro e w' ⟨rfl, ⟨nd, rfl⟩⟩; refine ⟨_, rfl, ?_⟩))
   go_ret
   exact ⟨by first | rfl | (simp [errW_none, errW_some] <;> rfl) | (simp [*, errW_none, errW_some] <;> rfl), by repeat (first | (with_reducible first | exact HB.out | apply below_alloc | apply pw_below_drewN | apply below_drew1) | exact HB.out)⟩

end Go.Proofs.YtkohjiajbdkcbaaDoor.All


/- Contracts of Go's library at this translation: laid by the shelf's lay-shelf.mjs and lay-plain.mjs, those that this session's claims use. -/
namespace Go.Proofs
open Go.Shelf
set_option linter.unusedVariables false
def Tryd.laysC174_ren : Go.Shelf.Ren := ⟨fun | 174 => 47 | 247 => 79 | 245 => 80 | 287 => 102 | 279 => 103 | 280 => 104 | 281 => 105 | 282 => 106 | 321 => 125 | 322 => 126 | 316 => 127 | 171 => 66 | 205 => 128 | 243 => 89 | 246 => 76 | 283 => 97 | 284 => 98 | 285 => 99 | 286 => 100 | 129 => 121 | 317 => 120 | 318 => 122 | 319 => 123 | 320 => 124 | 337 => 132 | 338 => 133 | n => n, fun | 9 => 9 | 3 => 3 | 2 => 2 | 75 => 91 | 85 => 98 | 4 => 4 | 167 => 160 | 5 => 5 | 53 => 22 | 175 => 161 | 46 => 100 | 168 => 163 | 37 => 41 | 0 => 0 | 210 => 179 | 21 => 21 | 127 => 132 | 145 => 193 | 143 => 191 | 171 => 153 | 173 => 156 | 212 => 171 | 51 => 138 | 20 => 20 | 213 => 172 | 232 => 197 | 233 => 198 | 80 => 94 | n => n, fun | 15 => 1 | 16 => 2 | 17 => 0 | 18 => 3 | 19 => 4 | n => n⟩
theorem Tryd.laysC174 : Go.Proofs.LaysC.n174 Tryd.prog Tryd.laysC174_ren := {
  mixed := by kernel_rfl
  f129 := Tryd.func121.trans (congrArg some (by kernel_rfl))
  f171 := Tryd.func66.trans (congrArg some (by kernel_rfl))
  f174 := Tryd.func47.trans (congrArg some (by kernel_rfl))
  f205 := Tryd.func128.trans (congrArg some (by kernel_rfl))
  f243 := Tryd.func89.trans (congrArg some (by kernel_rfl))
  f245 := Tryd.func80.trans (congrArg some (by kernel_rfl))
  f246 := Tryd.func76.trans (congrArg some (by kernel_rfl))
  f247 := Tryd.func79.trans (congrArg some (by kernel_rfl))
  f279 := Tryd.func103.trans (congrArg some (by kernel_rfl))
  f280 := Tryd.func104.trans (congrArg some (by kernel_rfl))
  f281 := Tryd.func105.trans (congrArg some (by kernel_rfl))
  f282 := Tryd.func106.trans (congrArg some (by kernel_rfl))
  f283 := Tryd.func97.trans (congrArg some (by kernel_rfl))
  f284 := Tryd.func98.trans (congrArg some (by kernel_rfl))
  f285 := Tryd.func99.trans (congrArg some (by kernel_rfl))
  f286 := Tryd.func100.trans (congrArg some (by kernel_rfl))
  f287 := Tryd.func102.trans (congrArg some (by kernel_rfl))
  f316 := Tryd.func127.trans (congrArg some (by kernel_rfl))
  f317 := Tryd.func120.trans (congrArg some (by kernel_rfl))
  f318 := Tryd.func122.trans (congrArg some (by kernel_rfl))
  f319 := Tryd.func123.trans (congrArg some (by kernel_rfl))
  f320 := Tryd.func124.trans (congrArg some (by kernel_rfl))
  f321 := Tryd.func125.trans (congrArg some (by kernel_rfl))
  f322 := Tryd.func126.trans (congrArg some (by kernel_rfl))
  f337 := Tryd.func132.trans (congrArg some (by kernel_rfl))
  f338 := Tryd.func133.trans (congrArg some (by kernel_rfl))
  t0 := Tryd.underlying0
  a0 := Tryd.isAgg0
  z0 := Tryd.sizeOf0
  v0 := Tryd.zeroValue0
  t2 := Tryd.underlying2
  a2 := Tryd.isAgg2
  z2 := Tryd.sizeOf2
  v2 := Tryd.zeroValue2
  t3 := Tryd.underlying3
  a3 := Tryd.isAgg3
  z3 := Tryd.sizeOf3
  v3 := Tryd.zeroValue3
  t4 := Tryd.underlying4
  a4 := Tryd.isAgg4
  z4 := Tryd.sizeOf4
  v4 := Tryd.zeroValue4
  t5 := Tryd.underlying5
  a5 := Tryd.isAgg5
  z5 := Tryd.sizeOf5
  v5 := Tryd.zeroValue5
  t9 := Tryd.underlying9
  a9 := Tryd.isAgg9
  z9 := Tryd.sizeOf9
  v9 := Tryd.zeroValue9
  t20 := Tryd.underlying20
  a20 := Tryd.isAgg20
  z20 := Tryd.sizeOf20
  v20 := Tryd.zeroValue20
  t21 := Tryd.underlying21
  a21 := Tryd.isAgg21
  z21 := Tryd.sizeOf21
  v21 := Tryd.zeroValue21
  t37 := Tryd.underlying41
  a37 := Tryd.isAgg41
  z37 := Tryd.sizeOf41
  v37 := Tryd.zeroValue41
  t46 := Tryd.underlying100
  a46 := Tryd.isAgg100
  z46 := Tryd.sizeOf100
  v46 := Tryd.zeroValue100
  t51 := Tryd.underlying138
  a51 := Tryd.isAgg138
  z51 := Tryd.sizeOf138
  v51 := Tryd.zeroValue138
  t53 := Tryd.underlying22
  a53 := Tryd.isAgg22
  z53 := Tryd.sizeOf22
  v53 := Tryd.zeroValue22
  t75 := Tryd.underlying91
  a75 := Tryd.isAgg91
  z75 := Tryd.sizeOf91
  v75 := Tryd.zeroValue91
  t85 := Tryd.underlying98
  a85 := Tryd.isAgg98
  z85 := Tryd.sizeOf98
  v85 := Tryd.zeroValue98
  t127 := Tryd.underlying132
  a127 := Tryd.isAgg132
  z127 := Tryd.sizeOf132
  v127 := Tryd.zeroValue132
  t143 := Tryd.underlying191
  a143 := Tryd.isAgg191
  z143 := Tryd.sizeOf191
  v143 := Tryd.zeroValue191
  t145 := Tryd.underlying193
  a145 := Tryd.isAgg193
  z145 := Tryd.sizeOf193
  v145 := Tryd.zeroValue193
  t167 := Tryd.underlying160
  a167 := Tryd.isAgg160
  z167 := Tryd.sizeOf160
  v167 := Tryd.zeroValue160
  t168 := Tryd.underlying163
  a168 := Tryd.isAgg163
  z168 := Tryd.sizeOf163
  v168 := Tryd.zeroValue163
  t171 := Tryd.underlying153
  a171 := Tryd.isAgg153
  z171 := Tryd.sizeOf153
  v171 := Tryd.zeroValue153
  t173 := Tryd.underlying156
  a173 := Tryd.isAgg156
  z173 := Tryd.sizeOf156
  v173 := Tryd.zeroValue156
  t175 := Tryd.underlying161
  a175 := Tryd.isAgg161
  z175 := Tryd.sizeOf161
  v175 := Tryd.zeroValue161
  t210 := Tryd.underlying179
  a210 := Tryd.isAgg179
  z210 := Tryd.sizeOf179
  v210 := Tryd.zeroValue179
  t212 := Tryd.underlying171
  a212 := Tryd.isAgg171
  z212 := Tryd.sizeOf171
  v212 := Tryd.zeroValue171
  t213 := Tryd.underlying172
  a213 := Tryd.isAgg172
  z213 := Tryd.sizeOf172
  t232 := Tryd.underlying197
  a232 := Tryd.isAgg197
  z232 := Tryd.sizeOf197
  v232 := Tryd.zeroValue197
  t233 := Tryd.underlying198
  a233 := Tryd.isAgg198
  z233 := Tryd.sizeOf198
  v233 := Tryd.zeroValue198
  g15 := by kernel_rfl
  g16 := by kernel_rfl
  g17 := by kernel_rfl
  g18 := by kernel_rfl
  g19 := by kernel_rfl
  t80 := Tryd.underlying94
  a80 := Tryd.isAgg94
  z80 := Tryd.sizeOf94
  v80 := Tryd.zeroValue94
  i0 := by kernel_rfl
  i2 := by kernel_rfl
  i3 := by kernel_rfl
  i4 := by kernel_rfl
  i5 := by kernel_rfl
  i9 := by kernel_rfl
  i20 := by kernel_rfl
  i21 := by kernel_rfl
  i37 := by kernel_rfl
  i46 := by kernel_rfl
  i51 := by kernel_rfl
  i53 := by kernel_rfl
  i75 := by kernel_rfl
  i80 := by kernel_rfl
  i85 := by kernel_rfl
  i127 := by kernel_rfl
  i143 := by kernel_rfl
  i145 := by kernel_rfl
  i167 := by kernel_rfl
  i168 := by kernel_rfl
  i171 := by kernel_rfl
  i173 := by kernel_rfl
  i175 := by kernel_rfl
  i210 := by kernel_rfl
  i212 := by kernel_rfl
  i232 := by kernel_rfl
  i233 := by kernel_rfl
  m15 := by kernel_rfl
  m16 := by kernel_rfl
  m17 := by kernel_rfl
  m18 := by kernel_rfl
  m19 := by kernel_rfl
  c0 := by kernel_rfl
  c2 := by kernel_rfl
  c3 := by kernel_rfl
  c4 := by kernel_rfl
  c5 := by kernel_rfl
  c9 := by kernel_rfl
  c20 := by kernel_rfl
  c21 := by kernel_rfl
  c37 := by kernel_rfl
  c46 := by kernel_rfl
  c51 := by kernel_rfl
  c53 := by kernel_rfl
  c75 := by kernel_rfl
  c80 := by kernel_rfl
  c85 := by kernel_rfl
  c127 := by kernel_rfl
  c143 := by kernel_rfl
  c145 := by kernel_rfl
  c167 := by kernel_rfl
  c168 := by kernel_rfl
  c171 := by kernel_rfl
  c173 := by kernel_rfl
  c175 := by kernel_rfl
  c210 := by kernel_rfl
  c212 := by kernel_rfl
  c213 := by kernel_rfl
  c232 := by kernel_rfl
  c233 := by kernel_rfl }
open Go.RowKit in
theorem Tryd.strconv_ParseInt_10_at64_ok (s : ByteArray) (hmax : s.size ≤ 9223372036854775806) (v : Int) (h : Lib.parseIntB 64 s.data.toList = .ok v) (w : World) :
    Calls Tryd.prog 47 #[.string s, .int .i64 10, .int .i64 64] w fun e w' => e = .returned (.tuple #[.int .i64 v, .nilIface]) ∧ (w' = w ∨ ∃ t, w' = Lib.bytesWorld w 5 t) := Any.strconv_ParseInt_10_at64_ok Tryd.laysC174 s hmax v h w
open Go.RowKit in
theorem Tryd.strconv_ParseInt_10_at64_syntax_var (s : ByteArray) (hlim : s.size ≤ 281474976710656) (h : Lib.parseIntB 64 s.data.toList = Lib.parseIntB 64 []) (tp : TypeId) (p : Value) (w : World) (hvar : w.var? Tryd.prog "strconv.ErrSyntax" = some #[.iface tp p]) :
    Calls Tryd.prog 47 #[.string s, .int .i64 10, .int .i64 64] w fun e w' => ∃ N, e = .returned (.tuple #[.int .i64 (0), .iface 163 (.pointer (some ⟨N, 0, none⟩))]) ∧ w.heap.size ≤ N ∧ w'.heap[N]? = some (.cells #[.string ⟨#[80, 97, 114, 115, 101, 73, 110, 116]⟩, .string s, .iface tp p] 179 (0, 0)) ∧ Below w.heap.size w w' := Any.strconv_ParseInt_10_at64_syntax_var Tryd.laysC174 s hlim h tp p w hvar
open Go.RowKit in
theorem Tryd.strconv_ParseInt_10_at64_range_var (s : ByteArray) (hlim : s.size ≤ 281474976710656) (h : Lib.parseIntB 64 s.data.toList = .range) (tp : TypeId) (p : Value) (w : World) (hvar : w.var? Tryd.prog "strconv.ErrRange" = some #[.iface tp p]) :
    Calls Tryd.prog 47 #[.string s, .int .i64 10, .int .i64 64] w fun e w' => ∃ N, e = .returned (.tuple #[.int .i64 (Lib.intSat 64 s.data.toList), .iface 163 (.pointer (some ⟨N, 0, none⟩))]) ∧ w.heap.size ≤ N ∧ w'.heap[N]? = some (.cells #[.string ⟨#[80, 97, 114, 115, 101, 73, 110, 116]⟩, .string s, .iface tp p] 179 (0, 0)) ∧ Below w.heap.size w w' := Any.strconv_ParseInt_10_at64_range_var Tryd.laysC174 s hlim h tp p w hvar
end Go.Proofs


namespace Go.Proofs.YtkohjiajbdkcbaaDoor.All
open Go.RowKit Go.Proofs.YtkohjiajbdkcbaaDoorW.PrintWords Go.Proofs.YtkohjiajbdkcbaaDoorW.PrintLast Go.Proofs.YtkohjiajbdkcbaaDoorW.PrintMore
attribute [local go_sem] max2_int min2_int max_two min_two max_three min_three max_four min_four   -- for this text's walks alone
set_option linter.unusedVariables false
set_option linter.unusedSimpArgs false

/-! ### impl_ParseWord: function 14 -/
def impl_ParseWord.f (a0 : Int) (a1 : ByteArray) : Option (Bool × Int) :=
 (impl_ValidWidth.f a0).bind fun t1 => if t1 = true then (if a1.size ≤ 140737488351232 then (match Lib.parseIntB 64 a1.data.toList with
  | .ok v => (impl_Cut.f a0 (IntKind.u64.wrap v)).bind fun t2 => (impl_FormatWord.f a0 t2).bind fun t3 => if t3.toList = a1.toList then some (true, t2) else some (false, 0)
  | _ => some (false, 0)) else none) else some (false, 0)
theorem parse_below {w w' : World} {e : TypeId} (h : w' = w ∨ ∃ t, w' = Lib.bytesWorld w e t) : Below w.heap.size w w' := by
 rcases h with rfl | ⟨t, rfl⟩
 · exact Below.refl _ _
 · exact bytes_below (Below.refl _ _) (Nat.le_refl _) e t
set_option maxHeartbeats 4000000 in
set_option maxRecDepth 100000 in
theorem impl_ParseWord.bad (a0 : Int) (a1 : ByteArray) (w : World) (h : impl_ValidWidth.f a0 = some false) :
 Calls Tryd.prog 14 #[.int .i64 a0, .string a1] w fun e w' => e = .returned (.agg #[.bool false, .int .u64 0]) ∧ Below w.heap.size w w' := by
 have A1 := Aside0.mk h
 clear h
 have hu := Tryd.underlying37
 have HB := Aside0.mk (Below.refl w.heap.size w)
 go_enter Tryd.func14, Tryd.ntmps14
 go_wp2_with (first | ((with_reducible refine gate_dst (N := 4) rfl ?_); refine box_event ?hg (N := 4) ?hd (cs := #[.bool false, .int .u64 0]) (t := 37) ?hr ?_; (case hd => rfl); (case hg => rfl); (case hr => first | (go_simp; done) | (go_simp; rfl)); intro gb hg w1 hbox hb; have n0_ := Aside0.mk (below_step HB.out hb); have BK := Aside0.mk hbox; have GE := Aside0.mk ((by rw [hg]; exact (below_size HB.out)) : w.heap.size ≤ gb); clear HB; have HB := n0_; clear n0_; clear hb hbox hg) | ((with_reducible refine gate_callee (f := 46) rfl ?_); refine goesL_ (some 9) rfl rfl Tryd.func46 (by kernel_rfl) rfl #[.int .i64 a0] rfl (by (try simp only [List.map_toArray, List.map_cons, List.map_nil]); first | done | rfl) ?_; (with_reducible refine (impl_ValidWidth.calls a0 false _ A1.out).mono ?_); rintro e w2 ⟨rfl, ⟨nd, rfl⟩⟩; refine ⟨_, rfl, ?_⟩; have hcz0 : (w1.drewN nd).cell? ⟨gb, 0, none⟩ = some (.bool false) := (blk_cell BK.out 0).trans rfl; have hcz1 : (w1.drewN nd).cell? ⟨gb, 1, none⟩ = some (.int .u64 0) := (blk_cell BK.out 1).trans rfl; have hfz0 := blk_frozen BK.out 0; have hfz1 := blk_frozen BK.out 1))
 refine bodyPost_ret (results_cell_row rfl _ _ gb 37 #[.bool false, .int .u64 0] (0, 0) _ rfl (by (with_reducible repeat (first | refine blk_drewN ?_ _ | refine blk_drew ?_ | refine blk_alloc ?_ _)); refine blk_put (cs := #[.bool false, .int .u64 0]) ?_ 1 _ rfl; (with_reducible repeat (first | refine blk_drewN ?_ _ | refine blk_drew ?_ | refine blk_alloc ?_ _)); refine blk_put (cs := #[.bool false, .int .u64 0]) ?_ 0 _ rfl; (with_reducible repeat (first | refine blk_drewN ?_ _ | refine blk_drew ?_ | refine blk_alloc ?_ _)); exact BK.out) Tryd.underlying37 rfl (by kernel_rfl)) rfl ?_
 exact ⟨by first | rfl | (simp; done), (by repeat (first | (with_reducible first | exact HB.out | apply below_alloc | apply pw_below_drewN | apply below_drew1 | refine below_set ?_ GE.out) | exact HB.out))⟩
set_option maxHeartbeats 4000000 in
set_option maxRecDepth 100000 in
theorem impl_ParseWord.nosyn_ (a0 : Int) (a1 : ByteArray) (w : World) (hs : a1.size ≤ 140737488351232) (h : impl_ValidWidth.f a0 = some true) (h2 : Lib.parseIntB 64 a1.data.toList = Lib.parseIntB 64 []) (tp : TypeId) (p : Value) (hv : ∀ w', Below w.heap.size w w' → w'.var? Tryd.prog "strconv.ErrSyntax" = some #[.iface tp p]) :
 Calls Tryd.prog 14 #[.int .i64 a0, .string a1] w fun e w' => e = .returned (.agg #[.bool false, .int .u64 0]) ∧ Below w.heap.size w w' := by
 have A1 := Aside0.mk h
 have A2 := Aside0.mk h2
 have hvar := Aside0.mk hv
 clear h h2 hv
 replace hs := Aside0.mk hs
 have hu := Tryd.underlying37
 have HB := Aside0.mk (Below.refl w.heap.size w)
 go_enter Tryd.func14, Tryd.ntmps14
 go_wp2_with (first | ((with_reducible refine gate_dst (N := 4) rfl ?_); refine box_event ?hg (N := 4) ?hd (cs := #[.bool false, .int .u64 0]) (t := 37) ?hr ?_; (case hd => rfl); (case hg => rfl); (case hr => first | (go_simp; done) | (go_simp; rfl)); intro gb hg w1 hbox hb; have n0_ := Aside0.mk (below_step HB.out hb); have BK := Aside0.mk hbox; have GE := Aside0.mk ((by rw [hg]; exact (below_size HB.out)) : w.heap.size ≤ gb); clear HB; have HB := n0_; clear n0_; clear hb hbox hg) | ((with_reducible refine gate_callee (f := 46) rfl ?_); refine goesL_ (some 9) rfl rfl Tryd.func46 (by kernel_rfl) rfl #[.int .i64 a0] rfl (by (try simp only [List.map_toArray, List.map_cons, List.map_nil]); first | done | rfl) ?_; (with_reducible refine (impl_ValidWidth.calls a0 true _ A1.out).mono ?_); rintro e w2 ⟨rfl, ⟨nd, rfl⟩⟩; refine ⟨_, rfl, ?_⟩) | ((with_reducible refine gate_callee (f := 47) rfl ?_); refine goesL_ (some 14) rfl rfl Tryd.func47 (by kernel_rfl) rfl #[.string a1, .int .i64 10, .int .i64 64] rfl (by (try simp only [List.map_toArray, List.map_cons, List.map_nil]); first | done | rfl) ?_; (with_reducible refine (Tryd.strconv_ParseInt_10_at64_syntax_var a1 (Nat.le_trans hs.out (by decide)) A2.out tp p _ ?hvar).mono ?_); (case hvar => exact hvar.out _ (by repeat (first | (with_reducible first | exact HB.out | apply below_alloc | apply pw_below_drewN | apply below_drew1 | refine below_set ?_ GE.out) | exact HB.out))); rintro e w3 ⟨N, rfl, _, _, hb⟩; refine ⟨_, rfl, ?_⟩; have n1_ := Aside0.mk (blk_below (by (with_reducible repeat (first | refine blk_drewN ?_ _ | refine blk_drew ?_ | refine blk_alloc ?_ _)); exact BK.out) hb); have n0_ := Aside0.mk (below_step (by repeat (first | (with_reducible first | exact HB.out | apply below_alloc | apply pw_below_drewN | apply below_drew1 | refine below_set ?_ GE.out) | exact HB.out)) hb); clear HB BK hb; have HB := n0_; have BK := n1_; clear n0_ n1_; have hcz0 : w3.cell? ⟨gb, 0, none⟩ = some (.bool false) := (blk_cell BK.out 0).trans rfl; have hcz1 : w3.cell? ⟨gb, 1, none⟩ = some (.int .u64 0) := (blk_cell BK.out 1).trans rfl; have hfz0 := blk_frozen BK.out 0; have hfz1 := blk_frozen BK.out 1))
 refine bodyPost_ret (results_cell_row rfl _ _ gb 37 #[.bool false, .int .u64 0] (0, 0) _ rfl (by (with_reducible repeat (first | refine blk_drewN ?_ _ | refine blk_drew ?_ | refine blk_alloc ?_ _)); refine blk_put (cs := #[.bool false, .int .u64 0]) ?_ 1 _ rfl; (with_reducible repeat (first | refine blk_drewN ?_ _ | refine blk_drew ?_ | refine blk_alloc ?_ _)); refine blk_put (cs := #[.bool false, .int .u64 0]) ?_ 0 _ rfl; (with_reducible repeat (first | refine blk_drewN ?_ _ | refine blk_drew ?_ | refine blk_alloc ?_ _)); exact BK.out) Tryd.underlying37 rfl (by kernel_rfl)) rfl ?_
 exact ⟨by first | rfl | (simp; done), (by repeat (first | (with_reducible first | exact HB.out | apply below_alloc | apply pw_below_drewN | apply below_drew1 | refine below_set ?_ GE.out) | exact HB.out))⟩
set_option maxHeartbeats 4000000 in
set_option maxRecDepth 100000 in
theorem impl_ParseWord.range_ (a0 : Int) (a1 : ByteArray) (w : World) (hs : a1.size ≤ 140737488351232) (h : impl_ValidWidth.f a0 = some true) (h2 : Lib.parseIntB 64 a1.data.toList = .range) (tp : TypeId) (p : Value) (hv : ∀ w', Below w.heap.size w w' → w'.var? Tryd.prog "strconv.ErrRange" = some #[.iface tp p]) :
 Calls Tryd.prog 14 #[.int .i64 a0, .string a1] w fun e w' => e = .returned (.agg #[.bool false, .int .u64 0]) ∧ Below w.heap.size w w' := by
 have A1 := Aside0.mk h
 have A2 := Aside0.mk h2
 have hvar := Aside0.mk hv
 clear h h2 hv
 replace hs := Aside0.mk hs
 have hu := Tryd.underlying37
 have HB := Aside0.mk (Below.refl w.heap.size w)
 go_enter Tryd.func14, Tryd.ntmps14
 go_wp2_with (first | ((with_reducible refine gate_dst (N := 4) rfl ?_); refine box_event ?hg (N := 4) ?hd (cs := #[.bool false, .int .u64 0]) (t := 37) ?hr ?_; (case hd => rfl); (case hg => rfl); (case hr => first | (go_simp; done) | (go_simp; rfl)); intro gb hg w1 hbox hb; have n0_ := Aside0.mk (below_step HB.out hb); have BK := Aside0.mk hbox; have GE := Aside0.mk ((by rw [hg]; exact (below_size HB.out)) : w.heap.size ≤ gb); clear HB; have HB := n0_; clear n0_; clear hb hbox hg) | ((with_reducible refine gate_callee (f := 46) rfl ?_); refine goesL_ (some 9) rfl rfl Tryd.func46 (by kernel_rfl) rfl #[.int .i64 a0] rfl (by (try simp only [List.map_toArray, List.map_cons, List.map_nil]); first | done | rfl) ?_; (with_reducible refine (impl_ValidWidth.calls a0 true _ A1.out).mono ?_); rintro e w2 ⟨rfl, ⟨nd, rfl⟩⟩; refine ⟨_, rfl, ?_⟩) | ((with_reducible refine gate_callee (f := 47) rfl ?_); refine goesL_ (some 14) rfl rfl Tryd.func47 (by kernel_rfl) rfl #[.string a1, .int .i64 10, .int .i64 64] rfl (by (try simp only [List.map_toArray, List.map_cons, List.map_nil]); first | done | rfl) ?_; (with_reducible refine (Tryd.strconv_ParseInt_10_at64_range_var a1 (Nat.le_trans hs.out (by decide)) A2.out tp p _ ?hvar).mono ?_); (case hvar => exact hvar.out _ (by repeat (first | (with_reducible first | exact HB.out | apply below_alloc | apply pw_below_drewN | apply below_drew1 | refine below_set ?_ GE.out) | exact HB.out))); rintro e w3 ⟨N, rfl, _, _, hb⟩; refine ⟨_, rfl, ?_⟩; have n1_ := Aside0.mk (blk_below (by (with_reducible repeat (first | refine blk_drewN ?_ _ | refine blk_drew ?_ | refine blk_alloc ?_ _)); exact BK.out) hb); have n0_ := Aside0.mk (below_step (by repeat (first | (with_reducible first | exact HB.out | apply below_alloc | apply pw_below_drewN | apply below_drew1 | refine below_set ?_ GE.out) | exact HB.out)) hb); clear HB BK hb; have HB := n0_; have BK := n1_; clear n0_ n1_; have hcz0 : w3.cell? ⟨gb, 0, none⟩ = some (.bool false) := (blk_cell BK.out 0).trans rfl; have hcz1 : w3.cell? ⟨gb, 1, none⟩ = some (.int .u64 0) := (blk_cell BK.out 1).trans rfl; have hfz0 := blk_frozen BK.out 0; have hfz1 := blk_frozen BK.out 1))
 refine bodyPost_ret (results_cell_row rfl _ _ gb 37 #[.bool false, .int .u64 0] (0, 0) _ rfl (by (with_reducible repeat (first | refine blk_drewN ?_ _ | refine blk_drew ?_ | refine blk_alloc ?_ _)); refine blk_put (cs := #[.bool false, .int .u64 0]) ?_ 1 _ rfl; (with_reducible repeat (first | refine blk_drewN ?_ _ | refine blk_drew ?_ | refine blk_alloc ?_ _)); refine blk_put (cs := #[.bool false, .int .u64 0]) ?_ 0 _ rfl; (with_reducible repeat (first | refine blk_drewN ?_ _ | refine blk_drew ?_ | refine blk_alloc ?_ _)); exact BK.out) Tryd.underlying37 rfl (by kernel_rfl)) rfl ?_
 exact ⟨by first | rfl | (simp; done), (by repeat (first | (with_reducible first | exact HB.out | apply below_alloc | apply pw_below_drewN | apply below_drew1 | refine below_set ?_ GE.out) | exact HB.out))⟩
set_option maxHeartbeats 4000000 in
set_option maxRecDepth 100000 in
theorem impl_ParseWord.yes_ (a0 : Int) (a1 : ByteArray) (w : World) (hT : LtTab w) (hs : a1.size ≤ 140737488351232) (h : impl_ValidWidth.f a0 = some true) (v : Int) (h2 : Lib.parseIntB 64 a1.data.toList = .ok v) (t2 : Int) (h3 : impl_Cut.f a0 (IntKind.u64.wrap v) = some t2) (t3 : ByteArray) (h4 : impl_FormatWord.f a0 t2 = some t3) (h5 : t3.toList = a1.toList) :
 Calls Tryd.prog 14 #[.int .i64 a0, .string a1] w fun e w' => e = .returned (.agg #[.bool true, .int .u64 t2]) ∧ Below w.heap.size w w' := by
 have A1 := Aside0.mk h
 have A2 := Aside0.mk h2
 have A3 := Aside0.mk h3
 have A4 := Aside0.mk h4
 have HT := Aside0.mk hT
 have hne : (t3.toList == a1.toList) = true := beq_iff_eq.mpr h5
 clear h h2 h3 h4 h5 hT
 replace hs := Aside0.mk hs
 have hu := Tryd.underlying37
 have HB := Aside0.mk (Below.refl w.heap.size w)
 go_enter Tryd.func14, Tryd.ntmps14
 go_wp2_with (first | ((with_reducible refine gate_dst (N := 4) rfl ?_); refine box_event ?hg (N := 4) ?hd (cs := #[.bool false, .int .u64 0]) (t := 37) ?hr ?_; (case hd => rfl); (case hg => rfl); (case hr => first | (go_simp; done) | (go_simp; rfl)); intro gb hg w1 hbox hb; have n0_ := Aside0.mk (below_step HB.out hb); have BK := Aside0.mk hbox; have GE := Aside0.mk ((by rw [hg]; exact (below_size HB.out)) : w.heap.size ≤ gb); clear HB; have HB := n0_; clear n0_; clear hb hbox hg) | ((with_reducible refine gate_callee (f := 46) rfl ?_); refine goesL_ (some 9) rfl rfl Tryd.func46 (by kernel_rfl) rfl #[.int .i64 a0] rfl (by (try simp only [List.map_toArray, List.map_cons, List.map_nil]); first | done | rfl) ?_; (with_reducible refine (impl_ValidWidth.calls a0 true _ A1.out).mono ?_); rintro e w2 ⟨rfl, ⟨nd, rfl⟩⟩; refine ⟨_, rfl, ?_⟩) | ((with_reducible refine gate_callee (f := 47) rfl ?_); refine goesL_ (some 14) rfl rfl Tryd.func47 (by kernel_rfl) rfl #[.string a1, .int .i64 10, .int .i64 64] rfl (by (try simp only [List.map_toArray, List.map_cons, List.map_nil]); first | done | rfl) ?_; (with_reducible refine (Tryd.strconv_ParseInt_10_at64_ok a1 (Nat.le_trans hs.out (by decide)) v A2.out _).mono ?_); rintro e w3 ⟨rfl, hw⟩; have hb := parse_below hw; clear hw; refine ⟨_, rfl, ?_⟩; have n1_ := Aside0.mk (blk_below (by (with_reducible repeat (first | refine blk_drewN ?_ _ | refine blk_drew ?_ | refine blk_alloc ?_ _)); exact BK.out) hb); have n0_ := Aside0.mk (below_step (by repeat (first | (with_reducible first | exact HB.out | apply below_alloc | apply pw_below_drewN | apply below_drew1 | refine below_set ?_ GE.out) | exact HB.out)) hb); clear HB BK hb; have HB := n0_; have BK := n1_; clear n0_ n1_; have hcz0 : w3.cell? ⟨gb, 0, none⟩ = some (.bool false) := (blk_cell BK.out 0).trans rfl; have hcz1 : w3.cell? ⟨gb, 1, none⟩ = some (.int .u64 0) := (blk_cell BK.out 1).trans rfl; have hfz0 := blk_frozen BK.out 0; have hfz1 := blk_frozen BK.out 1) | ((with_reducible refine gate_callee (f := 21) rfl ?_); refine goesL_ (some 23) rfl rfl Tryd.func21 (by kernel_rfl) rfl #[.int .i64 a0, .int .u64 (IntKind.u64.wrap v)] rfl (by (try simp only [List.map_toArray, List.map_cons, List.map_nil]); first | done | rfl) ?_; (with_reducible refine (impl_Cut.calls a0 (IntKind.u64.wrap v) t2 _ A3.out).mono ?_); rintro e w4 ⟨rfl, ⟨nd4, rfl⟩⟩; refine ⟨_, rfl, ?_⟩) | ((with_reducible refine gate_callee (f := 22) rfl ?_); refine goesL_ (some 26) rfl rfl Tryd.func22 (by kernel_rfl) rfl #[.int .i64 a0, .int .u64 t2] rfl (by (try simp only [List.map_toArray, List.map_cons, List.map_nil]); first | done | rfl) ?_; (with_reducible refine (impl_FormatWord.calls a0 t2 t3 _ ?tT A4.out).mono ?_); (case tT => exact HT.out.on (by repeat (first | (with_reducible first | exact HB.out | apply below_alloc | apply pw_below_drewN | apply below_drew1 | refine below_set ?_ GE.out) | exact HB.out))); rintro e w5 ⟨rfl, hb⟩; refine ⟨_, rfl, ?_⟩; have n1_ := Aside0.mk (blk_below (by (with_reducible repeat (first | refine blk_drewN ?_ _ | refine blk_drew ?_ | refine blk_alloc ?_ _)); exact BK.out) hb); have n0_ := Aside0.mk (below_step (by repeat (first | (with_reducible first | exact HB.out | apply below_alloc | apply pw_below_drewN | apply below_drew1 | refine below_set ?_ GE.out) | exact HB.out)) hb); clear HB BK hb hcz0 hcz1 hfz0 hfz1; have HB := n0_; have BK := n1_; clear n0_ n1_; have hcz0 : w5.cell? ⟨gb, 0, none⟩ = some (.bool false) := (blk_cell BK.out 0).trans rfl; have hcz1 : w5.cell? ⟨gb, 1, none⟩ = some (.int .u64 0) := (blk_cell BK.out 1).trans rfl; have hfz0 := blk_frozen BK.out 0; have hfz1 := blk_frozen BK.out 1))
 refine bodyPost_ret (results_cell_row rfl _ _ gb 37 #[.bool true, .int .u64 t2] (0, 0) _ rfl (by (with_reducible repeat (first | refine blk_drewN ?_ _ | refine blk_drew ?_ | refine blk_alloc ?_ _)); refine blk_put (cs := #[.bool true, .int .u64 0]) ?_ 1 (.int .u64 t2) rfl; (with_reducible repeat (first | refine blk_drewN ?_ _ | refine blk_drew ?_ | refine blk_alloc ?_ _)); refine blk_put (cs := #[.bool false, .int .u64 0]) ?_ 0 _ rfl; (with_reducible repeat (first | refine blk_drewN ?_ _ | refine blk_drew ?_ | refine blk_alloc ?_ _)); exact BK.out) Tryd.underlying37 rfl (by kernel_rfl)) rfl ?_
 exact ⟨by first | rfl | (simp; done), (by repeat (first | (with_reducible first | exact HB.out | apply below_alloc | apply pw_below_drewN | apply below_drew1 | refine below_set ?_ GE.out) | exact HB.out))⟩
set_option maxHeartbeats 4000000 in
set_option maxRecDepth 100000 in
theorem impl_ParseWord.no_ (a0 : Int) (a1 : ByteArray) (w : World) (hT : LtTab w) (hs : a1.size ≤ 140737488351232) (h : impl_ValidWidth.f a0 = some true) (v : Int) (h2 : Lib.parseIntB 64 a1.data.toList = .ok v) (t2 : Int) (h3 : impl_Cut.f a0 (IntKind.u64.wrap v) = some t2) (t3 : ByteArray) (h4 : impl_FormatWord.f a0 t2 = some t3) (h5 : t3.toList ≠ a1.toList) :
 Calls Tryd.prog 14 #[.int .i64 a0, .string a1] w fun e w' => e = .returned (.agg #[.bool false, .int .u64 0]) ∧ Below w.heap.size w w' := by
 have A1 := Aside0.mk h
 have A2 := Aside0.mk h2
 have A3 := Aside0.mk h3
 have A4 := Aside0.mk h4
 have HT := Aside0.mk hT
 have hne : (t3.toList == a1.toList) = false := beq_eq_false_iff_ne.mpr h5
 clear h h2 h3 h4 h5 hT
 replace hs := Aside0.mk hs
 have hu := Tryd.underlying37
 have HB := Aside0.mk (Below.refl w.heap.size w)
 go_enter Tryd.func14, Tryd.ntmps14
 go_wp2_with (first | ((with_reducible refine gate_dst (N := 4) rfl ?_); refine box_event ?hg (N := 4) ?hd (cs := #[.bool false, .int .u64 0]) (t := 37) ?hr ?_; (case hd => rfl); (case hg => rfl); (case hr => first | (go_simp; done) | (go_simp; rfl)); intro gb hg w1 hbox hb; have n0_ := Aside0.mk (below_step HB.out hb); have BK := Aside0.mk hbox; have GE := Aside0.mk ((by rw [hg]; exact (below_size HB.out)) : w.heap.size ≤ gb); clear HB; have HB := n0_; clear n0_; clear hb hbox hg) | ((with_reducible refine gate_callee (f := 46) rfl ?_); refine goesL_ (some 9) rfl rfl Tryd.func46 (by kernel_rfl) rfl #[.int .i64 a0] rfl (by (try simp only [List.map_toArray, List.map_cons, List.map_nil]); first | done | rfl) ?_; (with_reducible refine (impl_ValidWidth.calls a0 true _ A1.out).mono ?_); rintro e w2 ⟨rfl, ⟨nd, rfl⟩⟩; refine ⟨_, rfl, ?_⟩) | ((with_reducible refine gate_callee (f := 47) rfl ?_); refine goesL_ (some 14) rfl rfl Tryd.func47 (by kernel_rfl) rfl #[.string a1, .int .i64 10, .int .i64 64] rfl (by (try simp only [List.map_toArray, List.map_cons, List.map_nil]); first | done | rfl) ?_; (with_reducible refine (Tryd.strconv_ParseInt_10_at64_ok a1 (Nat.le_trans hs.out (by decide)) v A2.out _).mono ?_); rintro e w3 ⟨rfl, hw⟩; have hb := parse_below hw; clear hw; refine ⟨_, rfl, ?_⟩; have n1_ := Aside0.mk (blk_below (by (with_reducible repeat (first | refine blk_drewN ?_ _ | refine blk_drew ?_ | refine blk_alloc ?_ _)); exact BK.out) hb); have n0_ := Aside0.mk (below_step (by repeat (first | (with_reducible first | exact HB.out | apply below_alloc | apply pw_below_drewN | apply below_drew1 | refine below_set ?_ GE.out) | exact HB.out)) hb); clear HB BK hb; have HB := n0_; have BK := n1_; clear n0_ n1_; have hcz0 : w3.cell? ⟨gb, 0, none⟩ = some (.bool false) := (blk_cell BK.out 0).trans rfl; have hcz1 : w3.cell? ⟨gb, 1, none⟩ = some (.int .u64 0) := (blk_cell BK.out 1).trans rfl; have hfz0 := blk_frozen BK.out 0; have hfz1 := blk_frozen BK.out 1) | ((with_reducible refine gate_callee (f := 21) rfl ?_); refine goesL_ (some 23) rfl rfl Tryd.func21 (by kernel_rfl) rfl #[.int .i64 a0, .int .u64 (IntKind.u64.wrap v)] rfl (by (try simp only [List.map_toArray, List.map_cons, List.map_nil]); first | done | rfl) ?_; (with_reducible refine (impl_Cut.calls a0 (IntKind.u64.wrap v) t2 _ A3.out).mono ?_); rintro e w4 ⟨rfl, ⟨nd4, rfl⟩⟩; refine ⟨_, rfl, ?_⟩) | ((with_reducible refine gate_callee (f := 22) rfl ?_); refine goesL_ (some 26) rfl rfl Tryd.func22 (by kernel_rfl) rfl #[.int .i64 a0, .int .u64 t2] rfl (by (try simp only [List.map_toArray, List.map_cons, List.map_nil]); first | done | rfl) ?_; (with_reducible refine (impl_FormatWord.calls a0 t2 t3 _ ?tT A4.out).mono ?_); (case tT => exact HT.out.on (by repeat (first | (with_reducible first | exact HB.out | apply below_alloc | apply pw_below_drewN | apply below_drew1 | refine below_set ?_ GE.out) | exact HB.out))); rintro e w5 ⟨rfl, hb⟩; refine ⟨_, rfl, ?_⟩; have n1_ := Aside0.mk (blk_below (by (with_reducible repeat (first | refine blk_drewN ?_ _ | refine blk_drew ?_ | refine blk_alloc ?_ _)); exact BK.out) hb); have n0_ := Aside0.mk (below_step (by repeat (first | (with_reducible first | exact HB.out | apply below_alloc | apply pw_below_drewN | apply below_drew1 | refine below_set ?_ GE.out) | exact HB.out)) hb); clear HB BK hb hcz0 hcz1 hfz0 hfz1; have HB := n0_; have BK := n1_; clear n0_ n1_; have hcz0 : w5.cell? ⟨gb, 0, none⟩ = some (.bool false) := (blk_cell BK.out 0).trans rfl; have hcz1 : w5.cell? ⟨gb, 1, none⟩ = some (.int .u64 0) := (blk_cell BK.out 1).trans rfl; have hfz0 := blk_frozen BK.out 0; have hfz1 := blk_frozen BK.out 1))
 refine bodyPost_ret (results_cell_row rfl _ _ gb 37 #[.bool false, .int .u64 0] (0, 0) _ rfl (by (with_reducible repeat (first | refine blk_drewN ?_ _ | refine blk_drew ?_ | refine blk_alloc ?_ _)); refine blk_put (cs := #[.bool false, .int .u64 0]) ?_ 1 _ rfl; (with_reducible repeat (first | refine blk_drewN ?_ _ | refine blk_drew ?_ | refine blk_alloc ?_ _)); refine blk_put (cs := #[.bool false, .int .u64 0]) ?_ 0 _ rfl; (with_reducible repeat (first | refine blk_drewN ?_ _ | refine blk_drew ?_ | refine blk_alloc ?_ _)); exact BK.out) Tryd.underlying37 rfl (by kernel_rfl)) rfl ?_
 exact ⟨by first | rfl | (simp; done), (by repeat (first | (with_reducible first | exact HB.out | apply below_alloc | apply pw_below_drewN | apply below_drew1 | refine below_set ?_ GE.out) | exact HB.out))⟩
theorem impl_ParseWord.calls (a0 : Int) (a1 : ByteArray) (r1 : Bool) (r2 : Int) (w : World) (ht : LtTab w) (he : LtErr w) (h : impl_ParseWord.f a0 a1 = some (r1, r2)) :
 Calls Tryd.prog 14 #[.int .i64 a0, .string a1] w fun e w' => e = .returned (.agg #[.bool r1, .int .u64 r2]) ∧ Below w.heap.size w w' := by
 unfold impl_ParseWord.f at h
 obtain ⟨t1, h1, h⟩ := Option.bind_eq_some_iff.mp h
 cases t1 with
 | false =>
  rw [if_neg (by decide)] at h
  injection h with h
  injection h with e1 e2
  subst e1 e2
  exact impl_ParseWord.bad a0 a1 w h1
 | true =>
  rw [if_pos rfl] at h
  by_cases hs : a1.size ≤ 140737488351232
  · rw [if_pos hs] at h
    cases hp : Lib.parseIntB 64 a1.data.toList with
    | ok v =>
     rw [hp] at h
     obtain ⟨t2, h2, h⟩ := Option.bind_eq_some_iff.mp h
     obtain ⟨t3, h3, h⟩ := Option.bind_eq_some_iff.mp h
     by_cases h5 : t3.toList = a1.toList
     · rw [if_pos h5] at h
       injection h with h
       injection h with e1 e2
       subst e1 e2
       exact impl_ParseWord.yes_ a0 a1 w ht hs h1 v hp _ h2 t3 h3 h5
     · rw [if_neg h5] at h
       injection h with h
       injection h with e1 e2
       subst e1 e2
       exact impl_ParseWord.no_ a0 a1 w ht hs h1 v hp t2 h2 t3 h3 h5
    | range =>
     rw [hp] at h
     injection h with h
     injection h with e1 e2
     subst e1 e2
     obtain ⟨tp, p, tq, q, hv⟩ := he
     exact impl_ParseWord.range_ a0 a1 w hs h1 hp tq q (fun w' hb => (hv w' hb).2)
    | _ =>
     rw [hp] at h
     injection h with h
     injection h with e1 e2
     subst e1 e2
     obtain ⟨tp, p, tq, q, hv⟩ := he
     exact impl_ParseWord.nosyn_ a0 a1 w hs h1 hp tp p (fun w' hb => (hv w' hb).1)
  · rw [if_neg hs] at h
    cases h

end Go.Proofs.YtkohjiajbdkcbaaDoor.All


namespace Go.Proofs.YtkohjiajbdkcbaaDoor.All
open Go.RowKit Go.Proofs.YtkohjiajbdkcbaaDoorW.PrintWords Go.Proofs.YtkohjiajbdkcbaaDoorW.PrintLast Go.Proofs.YtkohjiajbdkcbaaDoorW.PrintMore
attribute [local go_sem] max2_int min2_int max_two min_two max_three min_three max_four min_four   -- for this text's walks alone
set_option linter.unusedVariables false
set_option linter.unusedSimpArgs false

/-! ### laws_lwAt: function 16 -/
def laws_lwAt.f (l0 : List Int) (a1 : Int) (a2 : Int) : Option (Int) := if a2 ≤ 1 then (some 0) else (if (l0.length : Int) = 0 then (if a2 = 0 then (none) else (some (Int.tmod (wrap64 (a1 * 7)) a2))) else (if 0 ≤ (Int.tmod a1 (l0.length : Int)) then (if (Int.tmod a1 (l0.length : Int)) < (l0.length : Int) then (if a2 > 200 then (if 0 ≤ (Int.tmod (wrap64 (a1 + 1)) (l0.length : Int)) then (if (Int.tmod (wrap64 (a1 + 1)) (l0.length : Int)) < (l0.length : Int) then (if a2 = 0 then (none) else (some (Int.tmod (wrap64 ((wrap64 ((wrap64 ((wrap64 (rd l0 (Int.tmod a1 (l0.length : Int)))) + (wrap64 ((wrap64 (Int.tdiv a1 (l0.length : Int))) * 3)))) * 251)) + (wrap64 (rd l0 (Int.tmod (wrap64 (a1 + 1)) (l0.length : Int)))))) a2))) else (none)) else (none)) else (if a2 = 0 then (none) else (some (Int.tmod (wrap64 ((wrap64 (rd l0 (Int.tmod a1 (l0.length : Int)))) + (wrap64 ((wrap64 (Int.tdiv a1 (l0.length : Int))) * 3)))) a2)))) else (none)) else (none)))
set_option maxHeartbeats 8000000 in
set_option maxRecDepth 100000 in
theorem laws_lwAt.calls (A0 : Option Addr) (c0 : Nat) (l0 : List Int) (a1 : Int) (a2 : Int) (r : Int) (w : World) (hr0 : Kd.C (Kd.int .u8) w A0 l0.length l0) (hc0 : l0.length ≤ c0) (h : laws_lwAt.f l0 a1 a2 = some r) :
 Calls Tryd.prog 16 #[.slice A0 l0.length c0, .int .i64 a1, .int .i64 a2] w fun e w' => e = .returned (.int .i64 r) ∧ Drawn0 w w' := by
 have HR0 := Aside0.mk hr0
 have HC0 := Aside0.mk hc0
 clear hr0 hc0
 have H : (if a2 ≤ 1 then (some 0) else (if (l0.length : Int) = 0 then (if a2 = 0 then (none) else (some (Int.tmod (wrap64 (a1 * 7)) a2))) else (if 0 ≤ (Int.tmod a1 (l0.length : Int)) then (if (Int.tmod a1 (l0.length : Int)) < (l0.length : Int) then (if a2 > 200 then (if 0 ≤ (Int.tmod (wrap64 (a1 + 1)) (l0.length : Int)) then (if (Int.tmod (wrap64 (a1 + 1)) (l0.length : Int)) < (l0.length : Int) then (if a2 = 0 then (none) else (some (Int.tmod (wrap64 ((wrap64 ((wrap64 ((wrap64 (rd l0 (Int.tmod a1 (l0.length : Int)))) + (wrap64 ((wrap64 (Int.tdiv a1 (l0.length : Int))) * 3)))) * 251)) + (wrap64 (rd l0 (Int.tmod (wrap64 (a1 + 1)) (l0.length : Int)))))) a2))) else (none)) else (none)) else (if a2 = 0 then (none) else (some (Int.tmod (wrap64 ((wrap64 (rd l0 (Int.tmod a1 (l0.length : Int)))) + (wrap64 ((wrap64 (Int.tdiv a1 (l0.length : Int))) * 3)))) a2)))) else (none)) else (none)))) = some r := h
 clear h
 by_cases c4 : a2 ≤ 1
 · rw [if_pos c4] at H
   have c4b0 : decide (a2 ≤ 1) = true := decide_eq_true c4
   clear c4
   obtain rfl := Option.some.inj H
   go_enter Tryd.func16, Tryd.ntmps16
   go_wp2
   repeat (go_quiet (fail); try go_wp2)
   go_ret
   exact ⟨by first | rfl | (simp; done) | (simp [*]; done), by repeat (first | exact Drawn0.refl _ | apply Drawn0.step)⟩
 · rw [if_neg c4] at H
   have c4b0 : decide (a2 ≤ 1) = false := decide_eq_false c4
   clear c4
   by_cases c5 : (l0.length : Int) = 0
   · rw [if_pos c5] at H
     have c5b0 : ((l0.length : Int) == 0) = true := beq_iff_eq.mpr c5
     have c5b1 : ((l0.length : Int) != 0) = false := bne_eq_false_iff_eq.mpr c5
     clear c5
     by_cases c6 : a2 = 0
     · rw [if_pos c6] at H
       exact absurd H (by simp)
     · rw [if_neg c6] at H
       have c6b0 : (a2 == 0) = false := beq_eq_false_iff_ne.mpr c6
       have c6b1 : (a2 != 0) = true := bne_iff_ne.mpr c6
       obtain rfl := Option.some.inj H
       go_enter Tryd.func16, Tryd.ntmps16
       go_wp2
       repeat (go_quiet (fail); try go_wp2)
       go_ret
       exact ⟨by first | rfl | (simp; done) | (simp [*]; done), by repeat (first | exact Drawn0.refl _ | apply Drawn0.step)⟩
   · rw [if_neg c5] at H
     have c5b0 : ((l0.length : Int) == 0) = false := beq_eq_false_iff_ne.mpr c5
     have c5b1 : ((l0.length : Int) != 0) = true := bne_iff_ne.mpr c5
     have c5b2 : ¬ (l0 = []) := fun h_ => c5 (by rw [h_]; rfl)
     obtain ⟨ji7, hji7⟩ : ∃ j_ : Int, (Int.tmod a1 (l0.length : Int)) = j_ := ⟨_, rfl⟩
     replace H : (if 0 ≤ (ji7) then (if (ji7) < (l0.length : Int) then (if a2 > 200 then (if 0 ≤ (Int.tmod (wrap64 (a1 + 1)) (l0.length : Int)) then (if (Int.tmod (wrap64 (a1 + 1)) (l0.length : Int)) < (l0.length : Int) then (if a2 = 0 then (none) else (some (Int.tmod (wrap64 ((wrap64 ((wrap64 ((wrap64 (rd l0 (ji7))) + (wrap64 ((wrap64 (Int.tdiv a1 (l0.length : Int))) * 3)))) * 251)) + (wrap64 (rd l0 (Int.tmod (wrap64 (a1 + 1)) (l0.length : Int)))))) a2))) else (none)) else (none)) else (if a2 = 0 then (none) else (some (Int.tmod (wrap64 ((wrap64 (rd l0 (ji7))) + (wrap64 ((wrap64 (Int.tdiv a1 (l0.length : Int))) * 3)))) a2)))) else (none)) else (none)) = some r := by first | (rw [hji7] at H; exact H) | (simp only [hji7] at H ⊢; exact H)
     by_cases c8 : 0 ≤ (ji7)
     · rw [if_pos c8] at H
       have c8b0 : decide (0 ≤ (ji7)) = true := decide_eq_true c8
       clear c8
       by_cases c9 : (ji7) < (l0.length : Int)
       · rw [if_pos c9] at H
         have c9b0 : decide ((ji7) < (l0.length : Int)) = true := decide_eq_true c9
         clear c9
         by_cases c10 : a2 > 200
         · rw [if_pos c10] at H
           have c10b0 : decide (200 < a2) = true := decide_eq_true c10
           clear c10
           obtain ⟨ji11, hji11⟩ : ∃ j_ : Int, (Int.tmod (wrap64 (a1 + 1)) (l0.length : Int)) = j_ := ⟨_, rfl⟩
           replace H : (if 0 ≤ (ji11) then (if (ji11) < (l0.length : Int) then (if a2 = 0 then (none) else (some (Int.tmod (wrap64 ((wrap64 ((wrap64 ((wrap64 (rd l0 (ji7))) + (wrap64 ((wrap64 (Int.tdiv a1 (l0.length : Int))) * 3)))) * 251)) + (wrap64 (rd l0 (ji11))))) a2))) else (none)) else (none)) = some r := by first | (rw [hji11] at H; exact H) | (simp only [hji11] at H ⊢; exact H)
           by_cases c12 : 0 ≤ (ji11)
           · rw [if_pos c12] at H
             have c12b0 : decide (0 ≤ (ji11)) = true := decide_eq_true c12
             clear c12
             by_cases c13 : (ji11) < (l0.length : Int)
             · rw [if_pos c13] at H
               have c13b0 : decide ((ji11) < (l0.length : Int)) = true := decide_eq_true c13
               clear c13
               by_cases c14 : a2 = 0
               · rw [if_pos c14] at H
                 exact absurd H (by simp)
               · rw [if_neg c14] at H
                 have c14b0 : (a2 == 0) = false := beq_eq_false_iff_ne.mpr c14
                 have c14b1 : (a2 != 0) = true := bne_iff_ne.mpr c14
                 obtain rfl := Option.some.inj H
                 have p168 : 0 ≤ ((ji7) : Int) := of_decide_eq_true (by first | (with_reducible assumption) | assumption)
                 have q168 : (ji7) < (l0.length : Int) := of_decide_eq_true (by first | (with_reducible assumption) | assumption)
                 obtain ⟨ad168, e168, hx168_0⟩ := Kd.at_int HR0.out (ji7) p168 q168
                 cases e168
                 replace p168 := eq_true p168
                 replace q168 := eq_true q168
                 have p169 : 0 ≤ ((ji11) : Int) := of_decide_eq_true (by first | (with_reducible assumption) | assumption)
                 have q169 : (ji11) < (l0.length : Int) := of_decide_eq_true (by first | (with_reducible assumption) | assumption)
                 obtain ⟨ad169, e169, hx169_0⟩ := Kd.at_int HR0.out (ji11) p169 q169
                 obtain rfl : ad168 = ad169 := (by injection e169)
                 replace p169 := eq_true p169
                 replace q169 := eq_true q169
                 go_enter Tryd.func16, Tryd.ntmps16
                 go_wp2
                 repeat (go_quiet (fail); try go_wp2)
                 go_ret
                 exact ⟨by first | rfl | (simp; done) | (simp only [← hji7, ← hji11] <;> (first | rfl | simp)) | (simp [*]; done), by repeat (first | exact Drawn0.refl _ | apply Drawn0.step)⟩
             · rw [if_neg c13] at H
               exact absurd H (by simp)
           · rw [if_neg c12] at H
             exact absurd H (by simp)
         · rw [if_neg c10] at H
           have c10b0 : decide (200 < a2) = false := decide_eq_false c10
           clear c10
           by_cases c15 : a2 = 0
           · rw [if_pos c15] at H
             exact absurd H (by simp)
           · rw [if_neg c15] at H
             have c15b0 : (a2 == 0) = false := beq_eq_false_iff_ne.mpr c15
             have c15b1 : (a2 != 0) = true := bne_iff_ne.mpr c15
             obtain rfl := Option.some.inj H
             have p168 : 0 ≤ ((ji7) : Int) := of_decide_eq_true (by first | (with_reducible assumption) | assumption)
             have q168 : (ji7) < (l0.length : Int) := of_decide_eq_true (by first | (with_reducible assumption) | assumption)
             obtain ⟨ad168, e168, hx168_0⟩ := Kd.at_int HR0.out (ji7) p168 q168
             cases e168
             replace p168 := eq_true p168
             replace q168 := eq_true q168
             go_enter Tryd.func16, Tryd.ntmps16
             go_wp2
             repeat (go_quiet (fail); try go_wp2)
             go_ret
             exact ⟨by first | rfl | (simp; done) | (simp only [← hji7] <;> (first | rfl | simp)) | (simp [*]; done), by repeat (first | exact Drawn0.refl _ | apply Drawn0.step)⟩
       · rw [if_neg c9] at H
         exact absurd H (by simp)
     · rw [if_neg c8] at H
       exact absurd H (by simp)

end Go.Proofs.YtkohjiajbdkcbaaDoor.All


namespace Go.Proofs.YtkohjiajbdkcbaaDoor.All
open Go.RowKit Go.Proofs.YtkohjiajbdkcbaaDoorW.PrintWords Go.Proofs.YtkohjiajbdkcbaaDoorW.PrintLast Go.Proofs.YtkohjiajbdkcbaaDoorW.PrintMore
attribute [local go_sem] max2_int min2_int max_two min_two max_three min_three max_four min_four   -- for this text's walks alone
set_option linter.unusedVariables false
set_option linter.unusedSimpArgs false

/-! ### laws_lwWidth: function 17 -/
def laws_lwWidth.f (a0 : Int) : Option (Int) := (some (([1, 8, 16, 32, 64] : List Int) : List Int)).bind fun y170 => (if 0 ≤ a0 then (if a0 < (y170.length : Int) then (some (rd y170 a0)) else (none)) else (none))
set_option maxHeartbeats 8000000 in
set_option maxRecDepth 100000 in
theorem laws_lwWidth.calls (a0 : Int) (r : Int) (w : World) (h : laws_lwWidth.f a0 = some r) :
 Calls Tryd.prog 17 #[.int .i64 a0] w fun e w' => e = .returned (.int .i64 r) ∧ Below w.heap.size w w' := by
 have HB := Aside0.mk (Below.refl w.heap.size w)
 have H : ((some (([1, 8, 16, 32, 64] : List Int) : List Int)).bind fun y170 => (if 0 ≤ a0 then (if a0 < (y170.length : Int) then (some (rd y170 a0)) else (none)) else (none))) = some r := h
 clear h
 obtain ⟨y170, hy170⟩ : ∃ y_ : List Int, y_ = (([1, 8, 16, 32, 64] : List Int)) := ⟨_, rfl⟩
 replace H : (if 0 ≤ a0 then (if a0 < (y170.length : Int) then (some (rd y170 a0)) else (none)) else (none)) = some r := by first | (rw [hy170]; with_reducible exact H) | (have H2_ := (Option.bind_some _ _).symm.trans H; rw [hy170]; with_reducible exact H2_) | (have H2_ := (Option.bind_some _ _).symm.trans H; with_reducible exact H2_) | with_reducible exact H | (rw [hy170]; exact H) | exact H
 have Ny170 := Aside0.mk hy170
 clear hy170
 by_cases c2 : 0 ≤ a0
 · rw [if_pos c2] at H
   have c2b0 : decide (0 ≤ a0) = true := decide_eq_true c2
   clear c2
   by_cases c3 : a0 < (y170.length : Int)
   · rw [if_pos c3] at H
     have c3b0 : decide (a0 < (y170.length : Int)) = true := decide_eq_true c3
     clear c3
     obtain rfl := Option.some.inj H
     go_enter Tryd.func17, Tryd.ntmps17
     go_wp2_with (first | ((with_reducible refine gate_dst (N := 3) rfl ?_); refine Kd.R_lit (Kd.int .i64) _ 2 ?hg (N := 3) ?hd (xs := ([1, 8, 16, 32, 64] : List Int)) (inner := [.int .i64 1, .int .i64 8, .int .i64 16, .int .i64 32, .int .i64 64]) (ok := fun _ => True) (okp := fun _ => True) ?hr ?hp (fun _ hk => hk) trivial (Below.refl _ _) (Nat.le_refl _) (by simp) ?_; (case hd => rfl); (case hg => rfl); (case hr => first | (go_simp; done) | (go_simp; rfl)); (case hp => exact (Reps.one (show Kd.M (Kd.int .i64) _ _ _ 1 [.int .i64 1] from rfl) (Reps.one (show Kd.M (Kd.int .i64) _ _ _ 8 [.int .i64 8] from rfl) (Reps.one (show Kd.M (Kd.int .i64) _ _ _ 16 [.int .i64 16] from rfl) (Reps.one (show Kd.M (Kd.int .i64) _ _ _ 32 [.int .i64 32] from rfl) (Reps.one (show Kd.M (Kd.int .i64) _ _ _ 64 [.int .i64 64] from rfl) (Reps.none _ _))))))); intro v171 w4 ho5 hb hg_ hnew_; clear hg_ hnew_; (first | rw [← Ny170.out] at ho5 | (simp only [Int.reduceToNat] at ho5; rw [← Ny170.out] at ho5)); have n0_ := Aside0.mk (Kd.R_lower ho5 (below_size (by repeat (first | (with_reducible first | exact HB.out | apply below_alloc | apply pw_below_drewN | apply below_drew1) | exact HB.out)))); have n1_ := Aside0.mk (below_step (by repeat (first | (with_reducible first | exact HB.out | apply below_alloc | apply pw_below_drewN | apply below_drew1) | exact HB.out)) hb); clear HB; have HO172 := n0_; have HB := n1_; clear n0_ n1_; clear hb ho5; obtain ⟨Ao6, co6, eo6⟩ := Kd.R_slice HO172.out; subst eo6; have p173 : 0 ≤ (a0 : Int) := of_decide_eq_true (by first | (with_reducible assumption) | assumption); have q173 : a0 < (y170.length : Int) := of_decide_eq_true (by first | (with_reducible assumption) | assumption); obtain ⟨ad173, e173, hx173_0⟩ := Kd.at_int (Kd.R_reads' HO172.out).2.2 a0 p173 q173; cases e173; replace p173 := eq_true p173; replace q173 := eq_true q173))
     go_ret
     exact ⟨by first | rfl | (simp [errW_none, errW_some] <;> rfl) | (simp [*, errW_none, errW_some] <;> rfl), by repeat (first | (with_reducible first | exact HB.out | apply below_alloc | apply pw_below_drewN | apply below_drew1) | exact HB.out)⟩
   · rw [if_neg c3] at H
     exact absurd H (by simp)
 · rw [if_neg c2] at H
   exact absurd H (by simp)

end Go.Proofs.YtkohjiajbdkcbaaDoor.All


namespace Go.Proofs.YtkohjiajbdkcbaaDoor.All
open Go.RowKit Go.Proofs.YtkohjiajbdkcbaaDoorW.PrintWords Go.Proofs.YtkohjiajbdkcbaaDoorW.PrintLast Go.Proofs.YtkohjiajbdkcbaaDoorW.PrintMore
attribute [local go_sem] max2_int min2_int max_two min_two max_three min_three max_four min_four   -- for this text's walks alone
set_option linter.unusedVariables false
set_option linter.unusedSimpArgs false

/-! ### laws_lwWord: function 18 -/
def laws_lwWord.l0 : Nat → List Int → Int → Int → Int → Int → Option (Int)
 | 0, _, _, _, _, _ => none
 | k + 1, x0, x1, x2, x7, x8 => if x8 < 8 then ((laws_lwAt.f x0 (wrap64 ((wrap64 (x1 + 1)) + x8)) 256).bind fun t178 => (laws_lwWord.l0 k x0 x1 x2 (Go.bits .or .u64 (IntKind.u64.wrap (x7 * 256)) (IntKind.u64.wrap (t178))) (wrap64 (x8 + 1)))) else (if x2 < 64 then (if 0 ≤ (IntKind.u64.wrap (x2)) then (some (Go.bits .and .u64 x7 (IntKind.u64.wrap ((shl .u64 1 (IntKind.u64.wrap (x2))) - 1)))) else (none)) else (some x7))
def laws_lwWord.f (k : Nat) (l0 : List Int) (a1 : Int) (a2 : Int) : Option (Int) := (laws_lwAt.f l0 a1 5).bind fun t174 => (if t174 = 0 then ((laws_lwAt.f l0 (wrap64 (a1 + 1)) 7).bind fun t175 => (if a2 < 64 then (if 0 ≤ (IntKind.u64.wrap (a2)) then (some (Go.bits .and .u64 (IntKind.u64.wrap (t175)) (IntKind.u64.wrap ((shl .u64 1 (IntKind.u64.wrap (a2))) - 1)))) else (none)) else (some (IntKind.u64.wrap (t175))))) else (if t174 = 1 then ((laws_lwAt.f l0 (wrap64 (a1 + 1)) 7).bind fun t176 => (if a2 < 64 then (if 0 ≤ (IntKind.u64.wrap (a2)) then (some (Go.bits .and .u64 (IntKind.u64.wrap (-(IntKind.u64.wrap (t176)))) (IntKind.u64.wrap ((shl .u64 1 (IntKind.u64.wrap (a2))) - 1)))) else (none)) else (some (IntKind.u64.wrap (-(IntKind.u64.wrap (t176))))))) else (if t174 = 2 then (if 0 ≤ (IntKind.u64.wrap (wrap64 (a2 - 1))) then ((laws_lwAt.f l0 (wrap64 (a1 + 1)) 3).bind fun t177 => (if a2 < 64 then (if 0 ≤ (IntKind.u64.wrap (a2)) then (some (Go.bits .and .u64 (IntKind.u64.wrap ((IntKind.u64.wrap ((shl .u64 1 (IntKind.u64.wrap (wrap64 (a2 - 1)))) - (IntKind.u64.wrap (t177)))) + 1)) (IntKind.u64.wrap ((shl .u64 1 (IntKind.u64.wrap (a2))) - 1)))) else (none)) else (some (IntKind.u64.wrap ((IntKind.u64.wrap ((shl .u64 1 (IntKind.u64.wrap (wrap64 (a2 - 1)))) - (IntKind.u64.wrap (t177)))) + 1))))) else (none)) else (laws_lwWord.l0 k l0 a1 a2 0 0))))
set_option maxHeartbeats 8000000 in
set_option maxRecDepth 100000 in
theorem laws_lwWord.calls (k : Nat) (A0 : Option Addr) (c0 : Nat) (l0 : List Int) (a1 : Int) (a2 : Int) (r : Int) (w : World) (hr0 : Kd.C (Kd.int .u8) w A0 l0.length l0) (hc0 : l0.length ≤ c0) (h : laws_lwWord.f k l0 a1 a2 = some r) :
 Calls Tryd.prog 18 #[.slice A0 l0.length c0, .int .i64 a1, .int .i64 a2] w fun e w' => e = .returned (.int .u64 r) ∧ Drawn0 w w' := by
 have HR0 := Aside0.mk hr0
 have HC0 := Aside0.mk hc0
 clear hr0 hc0
 have H : ((laws_lwAt.f l0 a1 5).bind fun t174 => (if t174 = 0 then ((laws_lwAt.f l0 (wrap64 (a1 + 1)) 7).bind fun t175 => (if a2 < 64 then (if 0 ≤ (IntKind.u64.wrap (a2)) then (some (Go.bits .and .u64 (IntKind.u64.wrap (t175)) (IntKind.u64.wrap ((shl .u64 1 (IntKind.u64.wrap (a2))) - 1)))) else (none)) else (some (IntKind.u64.wrap (t175))))) else (if t174 = 1 then ((laws_lwAt.f l0 (wrap64 (a1 + 1)) 7).bind fun t176 => (if a2 < 64 then (if 0 ≤ (IntKind.u64.wrap (a2)) then (some (Go.bits .and .u64 (IntKind.u64.wrap (-(IntKind.u64.wrap (t176)))) (IntKind.u64.wrap ((shl .u64 1 (IntKind.u64.wrap (a2))) - 1)))) else (none)) else (some (IntKind.u64.wrap (-(IntKind.u64.wrap (t176))))))) else (if t174 = 2 then (if 0 ≤ (IntKind.u64.wrap (wrap64 (a2 - 1))) then ((laws_lwAt.f l0 (wrap64 (a1 + 1)) 3).bind fun t177 => (if a2 < 64 then (if 0 ≤ (IntKind.u64.wrap (a2)) then (some (Go.bits .and .u64 (IntKind.u64.wrap ((IntKind.u64.wrap ((shl .u64 1 (IntKind.u64.wrap (wrap64 (a2 - 1)))) - (IntKind.u64.wrap (t177)))) + 1)) (IntKind.u64.wrap ((shl .u64 1 (IntKind.u64.wrap (a2))) - 1)))) else (none)) else (some (IntKind.u64.wrap ((IntKind.u64.wrap ((shl .u64 1 (IntKind.u64.wrap (wrap64 (a2 - 1)))) - (IntKind.u64.wrap (t177)))) + 1))))) else (none)) else (laws_lwWord.l0 k l0 a1 a2 0 0))))) = some r := h
 clear h
 replace H := Option.bind_eq_some_iff.mp H
 obtain ⟨t174, A40, H⟩ := H
 replace H : (if t174 = 0 then ((laws_lwAt.f l0 (wrap64 (a1 + 1)) 7).bind fun t175 => (if a2 < 64 then (if 0 ≤ (IntKind.u64.wrap (a2)) then (some (Go.bits .and .u64 (IntKind.u64.wrap (t175)) (IntKind.u64.wrap ((shl .u64 1 (IntKind.u64.wrap (a2))) - 1)))) else (none)) else (some (IntKind.u64.wrap (t175))))) else (if t174 = 1 then ((laws_lwAt.f l0 (wrap64 (a1 + 1)) 7).bind fun t176 => (if a2 < 64 then (if 0 ≤ (IntKind.u64.wrap (a2)) then (some (Go.bits .and .u64 (IntKind.u64.wrap (-(IntKind.u64.wrap (t176)))) (IntKind.u64.wrap ((shl .u64 1 (IntKind.u64.wrap (a2))) - 1)))) else (none)) else (some (IntKind.u64.wrap (-(IntKind.u64.wrap (t176))))))) else (if t174 = 2 then (if 0 ≤ (IntKind.u64.wrap (wrap64 (a2 - 1))) then ((laws_lwAt.f l0 (wrap64 (a1 + 1)) 3).bind fun t177 => (if a2 < 64 then (if 0 ≤ (IntKind.u64.wrap (a2)) then (some (Go.bits .and .u64 (IntKind.u64.wrap ((IntKind.u64.wrap ((shl .u64 1 (IntKind.u64.wrap (wrap64 (a2 - 1)))) - (IntKind.u64.wrap (t177)))) + 1)) (IntKind.u64.wrap ((shl .u64 1 (IntKind.u64.wrap (a2))) - 1)))) else (none)) else (some (IntKind.u64.wrap ((IntKind.u64.wrap ((shl .u64 1 (IntKind.u64.wrap (wrap64 (a2 - 1)))) - (IntKind.u64.wrap (t177)))) + 1))))) else (none)) else (laws_lwWord.l0 k l0 a1 a2 0 0)))) = some r := H
 have A4 := Aside0.mk A40
 clear A40
 by_cases c5 : t174 = 0
 · rw [if_pos c5] at H
   have c5b0 : (t174 == 0) = true := beq_iff_eq.mpr c5
   have c5b1 : (t174 != 0) = false := bne_eq_false_iff_eq.mpr c5
   clear c5
   replace H := Option.bind_eq_some_iff.mp H
   obtain ⟨t175, A60, H⟩ := H
   replace H : (if a2 < 64 then (if 0 ≤ (IntKind.u64.wrap (a2)) then (some (Go.bits .and .u64 (IntKind.u64.wrap (t175)) (IntKind.u64.wrap ((shl .u64 1 (IntKind.u64.wrap (a2))) - 1)))) else (none)) else (some (IntKind.u64.wrap (t175)))) = some r := H
   have A6 := Aside0.mk A60
   clear A60
   by_cases c7 : a2 < 64
   · rw [if_pos c7] at H
     have c7b0 : decide (a2 < 64) = true := decide_eq_true c7
     clear c7
     obtain ⟨ji8, hji8⟩ : ∃ j_ : Int, (IntKind.u64.wrap (a2)) = j_ := ⟨_, rfl⟩
     replace H : (if 0 ≤ (ji8) then (some (Go.bits .and .u64 (IntKind.u64.wrap (t175)) (IntKind.u64.wrap ((shl .u64 1 (ji8)) - 1)))) else (none)) = some r := by first | (rw [hji8] at H; exact H) | (simp only [hji8] at H ⊢; exact H)
     (try rw [hji8] at A4)
     (try rw [hji8] at A6)
     by_cases c9 : 0 ≤ (ji8)
     · rw [if_pos c9] at H
       have c9b0 := eq_true c9
       have c9b1 : decide (0 ≤ (ji8)) = true := decide_eq_true c9
       clear c9
       obtain ⟨ji10, hji10⟩ : ∃ j_ : Int, (shl .u64 1 (ji8)) = j_ := ⟨_, rfl⟩
       replace H : (some (Go.bits .and .u64 (IntKind.u64.wrap (t175)) (IntKind.u64.wrap ((ji10) - 1)))) = some r := by first | (rw [hji10] at H; exact H) | (simp only [hji10] at H ⊢; exact H)
       (try rw [hji10] at A4)
       (try rw [hji10] at A6)
       have hji10_ : (IntKind.u64.wrap (1 * 2 ^ min (ji8).toNat 64)) = ji10 := hji10
       have hji10z : (ji8) ≤ 64 → (IntKind.u64.wrap (1 * 2 ^ (ji8).toNat)) = ji10 := shl_small hji10
       have hji10u : (IntKind.u64.wrap (2 ^ min (ji8).toNat 64)) = ji10 := by have h_ := hji10_; rw [Int.one_mul] at h_; exact h_
       have hji10v : (ji8) ≤ 64 → (IntKind.u64.wrap (2 ^ (ji8).toNat)) = ji10 := fun hle_ => by have h_ := hji10z hle_; rw [Int.one_mul] at h_; exact h_
       obtain rfl := Option.some.inj H
       go_enter Tryd.func18, Tryd.ntmps18
       go_wp2_with (first | ((with_reducible refine gate_callee (f := 16) rfl ?_); refine goesL_ (some 11) rfl rfl Tryd.func16 (by kernel_rfl) rfl #[.slice A0 l0.length c0, .int .i64 a1, .int .i64 5] rfl (by (try simp only [List.map_toArray, List.map_cons, List.map_nil]); first | done | rfl | (simp only [List.length_drop, List.length_take]; rfl)) ?_; (with_reducible refine (laws_lwAt.calls _ _ l0 a1 5 t174 _ ?side1 ?side2 A4.out).mono ?_); (case side1 => repeat (first | exact HR0.out | (with_reducible refine Kd.C_alloc ?_ _) | (with_reducible refine Kd.C_drewN ?_ _) | (with_reducible refine Kd.C_drew ?_))); (case side2 => exact HC0.out); rintro e w' ⟨rfl, ⟨nd, rfl⟩⟩; refine ⟨_, rfl, ?_⟩) | ((with_reducible refine gate_callee (f := 16) rfl ?_); refine goesL_ (some 31) rfl rfl Tryd.func16 (by kernel_rfl) rfl #[.slice A0 l0.length c0, .int .i64 (wrap64 (a1 + 1)), .int .i64 7] rfl (by (try simp only [List.map_toArray, List.map_cons, List.map_nil]); first | done | rfl | (simp only [List.length_drop, List.length_take]; rfl)) ?_; (with_reducible refine (laws_lwAt.calls _ _ l0 (wrap64 (a1 + 1)) 7 t175 _ ?side1 ?side2 A6.out).mono ?_); (case side1 => repeat (first | exact HR0.out | (with_reducible refine Kd.C_alloc ?_ _) | (with_reducible refine Kd.C_drewN ?_ _) | (with_reducible refine Kd.C_drew ?_))); (case side2 => exact HC0.out); rintro e w' ⟨rfl, ⟨nd, rfl⟩⟩; refine ⟨_, rfl, ?_⟩))
       go_ret
       exact ⟨by first | rfl | (simp; done) | (simp only [← hji8, ← hji10] <;> (first | rfl | simp)) | (simp [*]; done), by repeat (first | exact Drawn0.refl _ | apply Drawn0.step)⟩
     · rw [if_neg c9] at H
       exact absurd H (by simp)
   · rw [if_neg c7] at H
     have c7b0 : decide (a2 < 64) = false := decide_eq_false c7
     clear c7
     obtain rfl := Option.some.inj H
     go_enter Tryd.func18, Tryd.ntmps18
     go_wp2_with (first | ((with_reducible refine gate_callee (f := 16) rfl ?_); refine goesL_ (some 11) rfl rfl Tryd.func16 (by kernel_rfl) rfl #[.slice A0 l0.length c0, .int .i64 a1, .int .i64 5] rfl (by (try simp only [List.map_toArray, List.map_cons, List.map_nil]); first | done | rfl | (simp only [List.length_drop, List.length_take]; rfl)) ?_; (with_reducible refine (laws_lwAt.calls _ _ l0 a1 5 t174 _ ?side1 ?side2 A4.out).mono ?_); (case side1 => repeat (first | exact HR0.out | (with_reducible refine Kd.C_alloc ?_ _) | (with_reducible refine Kd.C_drewN ?_ _) | (with_reducible refine Kd.C_drew ?_))); (case side2 => exact HC0.out); rintro e w' ⟨rfl, ⟨nd, rfl⟩⟩; refine ⟨_, rfl, ?_⟩) | ((with_reducible refine gate_callee (f := 16) rfl ?_); refine goesL_ (some 31) rfl rfl Tryd.func16 (by kernel_rfl) rfl #[.slice A0 l0.length c0, .int .i64 (wrap64 (a1 + 1)), .int .i64 7] rfl (by (try simp only [List.map_toArray, List.map_cons, List.map_nil]); first | done | rfl | (simp only [List.length_drop, List.length_take]; rfl)) ?_; (with_reducible refine (laws_lwAt.calls _ _ l0 (wrap64 (a1 + 1)) 7 t175 _ ?side1 ?side2 A6.out).mono ?_); (case side1 => repeat (first | exact HR0.out | (with_reducible refine Kd.C_alloc ?_ _) | (with_reducible refine Kd.C_drewN ?_ _) | (with_reducible refine Kd.C_drew ?_))); (case side2 => exact HC0.out); rintro e w' ⟨rfl, ⟨nd, rfl⟩⟩; refine ⟨_, rfl, ?_⟩))
     go_ret
     exact ⟨by first | rfl | (simp; done) | (simp [*]; done), by repeat (first | exact Drawn0.refl _ | apply Drawn0.step)⟩
 · rw [if_neg c5] at H
   have c5b0 : (t174 == 0) = false := beq_eq_false_iff_ne.mpr c5
   have c5b1 : (t174 != 0) = true := bne_iff_ne.mpr c5
   by_cases c11 : t174 = 1
   · rw [if_pos c11] at H
     have c11b0 : (t174 == 1) = true := beq_iff_eq.mpr c11
     have c11b1 : (t174 != 1) = false := bne_eq_false_iff_eq.mpr c11
     clear c11
     replace H := Option.bind_eq_some_iff.mp H
     obtain ⟨t176, A120, H⟩ := H
     replace H : (if a2 < 64 then (if 0 ≤ (IntKind.u64.wrap (a2)) then (some (Go.bits .and .u64 (IntKind.u64.wrap (-(IntKind.u64.wrap (t176)))) (IntKind.u64.wrap ((shl .u64 1 (IntKind.u64.wrap (a2))) - 1)))) else (none)) else (some (IntKind.u64.wrap (-(IntKind.u64.wrap (t176)))))) = some r := H
     have A12 := Aside0.mk A120
     clear A120
     by_cases c13 : a2 < 64
     · rw [if_pos c13] at H
       have c13b0 : decide (a2 < 64) = true := decide_eq_true c13
       clear c13
       obtain ⟨ji14, hji14⟩ : ∃ j_ : Int, (IntKind.u64.wrap (a2)) = j_ := ⟨_, rfl⟩
       replace H : (if 0 ≤ (ji14) then (some (Go.bits .and .u64 (IntKind.u64.wrap (-(IntKind.u64.wrap (t176)))) (IntKind.u64.wrap ((shl .u64 1 (ji14)) - 1)))) else (none)) = some r := by first | (rw [hji14] at H; exact H) | (simp only [hji14] at H ⊢; exact H)
       (try rw [hji14] at A4)
       (try rw [hji14] at A12)
       by_cases c15 : 0 ≤ (ji14)
       · rw [if_pos c15] at H
         have c15b0 := eq_true c15
         have c15b1 : decide (0 ≤ (ji14)) = true := decide_eq_true c15
         clear c15
         obtain ⟨ji16, hji16⟩ : ∃ j_ : Int, (shl .u64 1 (ji14)) = j_ := ⟨_, rfl⟩
         replace H : (some (Go.bits .and .u64 (IntKind.u64.wrap (-(IntKind.u64.wrap (t176)))) (IntKind.u64.wrap ((ji16) - 1)))) = some r := by first | (rw [hji16] at H; exact H) | (simp only [hji16] at H ⊢; exact H)
         (try rw [hji16] at A4)
         (try rw [hji16] at A12)
         have hji16_ : (IntKind.u64.wrap (1 * 2 ^ min (ji14).toNat 64)) = ji16 := hji16
         have hji16z : (ji14) ≤ 64 → (IntKind.u64.wrap (1 * 2 ^ (ji14).toNat)) = ji16 := shl_small hji16
         have hji16u : (IntKind.u64.wrap (2 ^ min (ji14).toNat 64)) = ji16 := by have h_ := hji16_; rw [Int.one_mul] at h_; exact h_
         have hji16v : (ji14) ≤ 64 → (IntKind.u64.wrap (2 ^ (ji14).toNat)) = ji16 := fun hle_ => by have h_ := hji16z hle_; rw [Int.one_mul] at h_; exact h_
         obtain rfl := Option.some.inj H
         go_enter Tryd.func18, Tryd.ntmps18
         go_wp2_with (first | ((with_reducible refine gate_callee (f := 16) rfl ?_); refine goesL_ (some 11) rfl rfl Tryd.func16 (by kernel_rfl) rfl #[.slice A0 l0.length c0, .int .i64 a1, .int .i64 5] rfl (by (try simp only [List.map_toArray, List.map_cons, List.map_nil]); first | done | rfl | (simp only [List.length_drop, List.length_take]; rfl)) ?_; (with_reducible refine (laws_lwAt.calls _ _ l0 a1 5 t174 _ ?side1 ?side2 A4.out).mono ?_); (case side1 => repeat (first | exact HR0.out | (with_reducible refine Kd.C_alloc ?_ _) | (with_reducible refine Kd.C_drewN ?_ _) | (with_reducible refine Kd.C_drew ?_))); (case side2 => exact HC0.out); rintro e w' ⟨rfl, ⟨nd, rfl⟩⟩; refine ⟨_, rfl, ?_⟩) | ((with_reducible refine gate_callee (f := 16) rfl ?_); refine goesL_ (some 38) rfl rfl Tryd.func16 (by kernel_rfl) rfl #[.slice A0 l0.length c0, .int .i64 (wrap64 (a1 + 1)), .int .i64 7] rfl (by (try simp only [List.map_toArray, List.map_cons, List.map_nil]); first | done | rfl | (simp only [List.length_drop, List.length_take]; rfl)) ?_; (with_reducible refine (laws_lwAt.calls _ _ l0 (wrap64 (a1 + 1)) 7 t176 _ ?side1 ?side2 A12.out).mono ?_); (case side1 => repeat (first | exact HR0.out | (with_reducible refine Kd.C_alloc ?_ _) | (with_reducible refine Kd.C_drewN ?_ _) | (with_reducible refine Kd.C_drew ?_))); (case side2 => exact HC0.out); rintro e w' ⟨rfl, ⟨nd, rfl⟩⟩; refine ⟨_, rfl, ?_⟩))
         go_ret
         exact ⟨by first | rfl | (simp; done) | (simp only [← hji14, ← hji16] <;> (first | rfl | simp)) | (simp [*]; done), by repeat (first | exact Drawn0.refl _ | apply Drawn0.step)⟩
       · rw [if_neg c15] at H
         exact absurd H (by simp)
     · rw [if_neg c13] at H
       have c13b0 : decide (a2 < 64) = false := decide_eq_false c13
       clear c13
       obtain rfl := Option.some.inj H
       go_enter Tryd.func18, Tryd.ntmps18
       go_wp2_with (first | ((with_reducible refine gate_callee (f := 16) rfl ?_); refine goesL_ (some 11) rfl rfl Tryd.func16 (by kernel_rfl) rfl #[.slice A0 l0.length c0, .int .i64 a1, .int .i64 5] rfl (by (try simp only [List.map_toArray, List.map_cons, List.map_nil]); first | done | rfl | (simp only [List.length_drop, List.length_take]; rfl)) ?_; (with_reducible refine (laws_lwAt.calls _ _ l0 a1 5 t174 _ ?side1 ?side2 A4.out).mono ?_); (case side1 => repeat (first | exact HR0.out | (with_reducible refine Kd.C_alloc ?_ _) | (with_reducible refine Kd.C_drewN ?_ _) | (with_reducible refine Kd.C_drew ?_))); (case side2 => exact HC0.out); rintro e w' ⟨rfl, ⟨nd, rfl⟩⟩; refine ⟨_, rfl, ?_⟩) | ((with_reducible refine gate_callee (f := 16) rfl ?_); refine goesL_ (some 38) rfl rfl Tryd.func16 (by kernel_rfl) rfl #[.slice A0 l0.length c0, .int .i64 (wrap64 (a1 + 1)), .int .i64 7] rfl (by (try simp only [List.map_toArray, List.map_cons, List.map_nil]); first | done | rfl | (simp only [List.length_drop, List.length_take]; rfl)) ?_; (with_reducible refine (laws_lwAt.calls _ _ l0 (wrap64 (a1 + 1)) 7 t176 _ ?side1 ?side2 A12.out).mono ?_); (case side1 => repeat (first | exact HR0.out | (with_reducible refine Kd.C_alloc ?_ _) | (with_reducible refine Kd.C_drewN ?_ _) | (with_reducible refine Kd.C_drew ?_))); (case side2 => exact HC0.out); rintro e w' ⟨rfl, ⟨nd, rfl⟩⟩; refine ⟨_, rfl, ?_⟩))
       go_ret
       exact ⟨by first | rfl | (simp; done) | (simp [*]; done), by repeat (first | exact Drawn0.refl _ | apply Drawn0.step)⟩
   · rw [if_neg c11] at H
     have c11b0 : (t174 == 1) = false := beq_eq_false_iff_ne.mpr c11
     have c11b1 : (t174 != 1) = true := bne_iff_ne.mpr c11
     by_cases c17 : t174 = 2
     · rw [if_pos c17] at H
       have c17b0 : (t174 == 2) = true := beq_iff_eq.mpr c17
       have c17b1 : (t174 != 2) = false := bne_eq_false_iff_eq.mpr c17
       clear c17
       obtain ⟨ji18, hji18⟩ : ∃ j_ : Int, (IntKind.u64.wrap (wrap64 (a2 - 1))) = j_ := ⟨_, rfl⟩
       replace H : (if 0 ≤ (ji18) then ((laws_lwAt.f l0 (wrap64 (a1 + 1)) 3).bind fun t177 => (if a2 < 64 then (if 0 ≤ (IntKind.u64.wrap (a2)) then (some (Go.bits .and .u64 (IntKind.u64.wrap ((IntKind.u64.wrap ((shl .u64 1 (ji18)) - (IntKind.u64.wrap (t177)))) + 1)) (IntKind.u64.wrap ((shl .u64 1 (IntKind.u64.wrap (a2))) - 1)))) else (none)) else (some (IntKind.u64.wrap ((IntKind.u64.wrap ((shl .u64 1 (ji18)) - (IntKind.u64.wrap (t177)))) + 1))))) else (none)) = some r := by first | (rw [hji18] at H; exact H) | (simp only [hji18] at H ⊢; exact H)
       (try rw [hji18] at A4)
       by_cases c19 : 0 ≤ (ji18)
       · rw [if_pos c19] at H
         have c19b0 := eq_true c19
         have c19b1 : decide (0 ≤ (ji18)) = true := decide_eq_true c19
         clear c19
         obtain ⟨ji20, hji20⟩ : ∃ j_ : Int, (shl .u64 1 (ji18)) = j_ := ⟨_, rfl⟩
         replace H : ((laws_lwAt.f l0 (wrap64 (a1 + 1)) 3).bind fun t177 => (if a2 < 64 then (if 0 ≤ (IntKind.u64.wrap (a2)) then (some (Go.bits .and .u64 (IntKind.u64.wrap ((IntKind.u64.wrap ((ji20) - (IntKind.u64.wrap (t177)))) + 1)) (IntKind.u64.wrap ((shl .u64 1 (IntKind.u64.wrap (a2))) - 1)))) else (none)) else (some (IntKind.u64.wrap ((IntKind.u64.wrap ((ji20) - (IntKind.u64.wrap (t177)))) + 1))))) = some r := by first | (rw [hji20] at H; exact H) | (simp only [hji20] at H ⊢; exact H)
         (try rw [hji20] at A4)
         have hji20_ : (IntKind.u64.wrap (1 * 2 ^ min (ji18).toNat 64)) = ji20 := hji20
         have hji20z : (ji18) ≤ 64 → (IntKind.u64.wrap (1 * 2 ^ (ji18).toNat)) = ji20 := shl_small hji20
         have hji20u : (IntKind.u64.wrap (2 ^ min (ji18).toNat 64)) = ji20 := by have h_ := hji20_; rw [Int.one_mul] at h_; exact h_
         have hji20v : (ji18) ≤ 64 → (IntKind.u64.wrap (2 ^ (ji18).toNat)) = ji20 := fun hle_ => by have h_ := hji20z hle_; rw [Int.one_mul] at h_; exact h_
         replace H := Option.bind_eq_some_iff.mp H
         obtain ⟨t177, A210, H⟩ := H
         replace H : (if a2 < 64 then (if 0 ≤ (IntKind.u64.wrap (a2)) then (some (Go.bits .and .u64 (IntKind.u64.wrap ((IntKind.u64.wrap ((ji20) - (IntKind.u64.wrap (t177)))) + 1)) (IntKind.u64.wrap ((shl .u64 1 (IntKind.u64.wrap (a2))) - 1)))) else (none)) else (some (IntKind.u64.wrap ((IntKind.u64.wrap ((ji20) - (IntKind.u64.wrap (t177)))) + 1)))) = some r := H
         have A21 := Aside0.mk A210
         clear A210
         by_cases c22 : a2 < 64
         · rw [if_pos c22] at H
           have c22b0 : decide (a2 < 64) = true := decide_eq_true c22
           clear c22
           obtain ⟨ji23, hji23⟩ : ∃ j_ : Int, (IntKind.u64.wrap (a2)) = j_ := ⟨_, rfl⟩
           replace H : (if 0 ≤ (ji23) then (some (Go.bits .and .u64 (IntKind.u64.wrap ((IntKind.u64.wrap ((ji20) - (IntKind.u64.wrap (t177)))) + 1)) (IntKind.u64.wrap ((shl .u64 1 (ji23)) - 1)))) else (none)) = some r := by first | (rw [hji23] at H; exact H) | (simp only [hji23] at H ⊢; exact H)
           (try rw [hji23] at A4)
           (try rw [hji23] at A21)
           by_cases c24 : 0 ≤ (ji23)
           · rw [if_pos c24] at H
             have c24b0 := eq_true c24
             have c24b1 : decide (0 ≤ (ji23)) = true := decide_eq_true c24
             clear c24
             obtain ⟨ji25, hji25⟩ : ∃ j_ : Int, (shl .u64 1 (ji23)) = j_ := ⟨_, rfl⟩
             replace H : (some (Go.bits .and .u64 (IntKind.u64.wrap ((IntKind.u64.wrap ((ji20) - (IntKind.u64.wrap (t177)))) + 1)) (IntKind.u64.wrap ((ji25) - 1)))) = some r := by first | (rw [hji25] at H; exact H) | (simp only [hji25] at H ⊢; exact H)
             (try rw [hji25] at A4)
             (try rw [hji25] at A21)
             have hji25_ : (IntKind.u64.wrap (1 * 2 ^ min (ji23).toNat 64)) = ji25 := hji25
             have hji25z : (ji23) ≤ 64 → (IntKind.u64.wrap (1 * 2 ^ (ji23).toNat)) = ji25 := shl_small hji25
             have hji25u : (IntKind.u64.wrap (2 ^ min (ji23).toNat 64)) = ji25 := by have h_ := hji25_; rw [Int.one_mul] at h_; exact h_
             have hji25v : (ji23) ≤ 64 → (IntKind.u64.wrap (2 ^ (ji23).toNat)) = ji25 := fun hle_ => by have h_ := hji25z hle_; rw [Int.one_mul] at h_; exact h_
             obtain rfl := Option.some.inj H
             go_enter Tryd.func18, Tryd.ntmps18
             go_wp2_with (first | ((with_reducible refine gate_callee (f := 16) rfl ?_); refine goesL_ (some 11) rfl rfl Tryd.func16 (by kernel_rfl) rfl #[.slice A0 l0.length c0, .int .i64 a1, .int .i64 5] rfl (by (try simp only [List.map_toArray, List.map_cons, List.map_nil]); first | done | rfl | (simp only [List.length_drop, List.length_take]; rfl)) ?_; (with_reducible refine (laws_lwAt.calls _ _ l0 a1 5 t174 _ ?side1 ?side2 A4.out).mono ?_); (case side1 => repeat (first | exact HR0.out | (with_reducible refine Kd.C_alloc ?_ _) | (with_reducible refine Kd.C_drewN ?_ _) | (with_reducible refine Kd.C_drew ?_))); (case side2 => exact HC0.out); rintro e w' ⟨rfl, ⟨nd, rfl⟩⟩; refine ⟨_, rfl, ?_⟩) | ((with_reducible refine gate_callee (f := 16) rfl ?_); refine goesL_ (some 50) rfl rfl Tryd.func16 (by kernel_rfl) rfl #[.slice A0 l0.length c0, .int .i64 (wrap64 (a1 + 1)), .int .i64 3] rfl (by (try simp only [List.map_toArray, List.map_cons, List.map_nil]); first | done | rfl | (simp only [List.length_drop, List.length_take]; rfl)) ?_; (with_reducible refine (laws_lwAt.calls _ _ l0 (wrap64 (a1 + 1)) 3 t177 _ ?side1 ?side2 A21.out).mono ?_); (case side1 => repeat (first | exact HR0.out | (with_reducible refine Kd.C_alloc ?_ _) | (with_reducible refine Kd.C_drewN ?_ _) | (with_reducible refine Kd.C_drew ?_))); (case side2 => exact HC0.out); rintro e w' ⟨rfl, ⟨nd, rfl⟩⟩; refine ⟨_, rfl, ?_⟩))
             go_ret
             exact ⟨by first | rfl | (simp; done) | (simp only [← hji18, ← hji20, ← hji23, ← hji25] <;> (first | rfl | simp)) | (simp [*]; done), by repeat (first | exact Drawn0.refl _ | apply Drawn0.step)⟩
           · rw [if_neg c24] at H
             exact absurd H (by simp)
         · rw [if_neg c22] at H
           have c22b0 : decide (a2 < 64) = false := decide_eq_false c22
           clear c22
           obtain rfl := Option.some.inj H
           go_enter Tryd.func18, Tryd.ntmps18
           go_wp2_with (first | ((with_reducible refine gate_callee (f := 16) rfl ?_); refine goesL_ (some 11) rfl rfl Tryd.func16 (by kernel_rfl) rfl #[.slice A0 l0.length c0, .int .i64 a1, .int .i64 5] rfl (by (try simp only [List.map_toArray, List.map_cons, List.map_nil]); first | done | rfl | (simp only [List.length_drop, List.length_take]; rfl)) ?_; (with_reducible refine (laws_lwAt.calls _ _ l0 a1 5 t174 _ ?side1 ?side2 A4.out).mono ?_); (case side1 => repeat (first | exact HR0.out | (with_reducible refine Kd.C_alloc ?_ _) | (with_reducible refine Kd.C_drewN ?_ _) | (with_reducible refine Kd.C_drew ?_))); (case side2 => exact HC0.out); rintro e w' ⟨rfl, ⟨nd, rfl⟩⟩; refine ⟨_, rfl, ?_⟩) | ((with_reducible refine gate_callee (f := 16) rfl ?_); refine goesL_ (some 50) rfl rfl Tryd.func16 (by kernel_rfl) rfl #[.slice A0 l0.length c0, .int .i64 (wrap64 (a1 + 1)), .int .i64 3] rfl (by (try simp only [List.map_toArray, List.map_cons, List.map_nil]); first | done | rfl | (simp only [List.length_drop, List.length_take]; rfl)) ?_; (with_reducible refine (laws_lwAt.calls _ _ l0 (wrap64 (a1 + 1)) 3 t177 _ ?side1 ?side2 A21.out).mono ?_); (case side1 => repeat (first | exact HR0.out | (with_reducible refine Kd.C_alloc ?_ _) | (with_reducible refine Kd.C_drewN ?_ _) | (with_reducible refine Kd.C_drew ?_))); (case side2 => exact HC0.out); rintro e w' ⟨rfl, ⟨nd, rfl⟩⟩; refine ⟨_, rfl, ?_⟩))
           go_ret
           exact ⟨by first | rfl | (simp; done) | (simp only [← hji18, ← hji20] <;> (first | rfl | simp)) | (simp [*]; done), by repeat (first | exact Drawn0.refl _ | apply Drawn0.step)⟩
       · rw [if_neg c19] at H
         exact absurd H (by simp)
     · rw [if_neg c17] at H
       have c17b0 : (t174 == 2) = false := beq_eq_false_iff_ne.mpr c17
       have c17b1 : (t174 != 2) = true := bne_iff_ne.mpr c17
       have H' := Aside0.mk H
       clear H
       go_enter Tryd.func18, Tryd.ntmps18
       go_wp2_with (first | ((with_reducible refine gate_callee (f := 16) rfl ?_); refine goesL_ (some 11) rfl rfl Tryd.func16 (by kernel_rfl) rfl #[.slice A0 l0.length c0, .int .i64 a1, .int .i64 5] rfl (by (try simp only [List.map_toArray, List.map_cons, List.map_nil]); first | done | rfl | (simp only [List.length_drop, List.length_take]; rfl)) ?_; (with_reducible refine (laws_lwAt.calls _ _ l0 a1 5 t174 _ ?side1 ?side2 A4.out).mono ?_); (case side1 => repeat (first | exact HR0.out | (with_reducible refine Kd.C_alloc ?_ _) | (with_reducible refine Kd.C_drewN ?_ _) | (with_reducible refine Kd.C_drew ?_))); (case side2 => exact HC0.out); rintro e w' ⟨rfl, ⟨nd, rfl⟩⟩; refine ⟨_, rfl, ?_⟩))
       go_loopg [7, 8] k (fun kq v7 v8 w' => ∃ (x7_1 : Int) (x8_1 : Int), v7 = .int .u64 x7_1 ∧ v8 = .int .i64 x8_1 ∧ Aside0 (laws_lwWord.l0 kq l0 a1 a2 x7_1 x8_1 = some r) ∧ Aside0 (kq ≤ k) ∧ Drawn0 w w')
       case atStart => exact ⟨(0), (0), (by first | rfl | (simp; done) | (simp [*]; done)), (by first | rfl | (simp; done) | (simp [*]; done)), H', ⟨Nat.le_refl _⟩, by repeat (first | exact Drawn0.refl _ | apply Drawn0.step)⟩
       case round =>
        clear H'
        try clear c1
        try clear c2
        try clear p2
        try clear c5
        try clear c5b0
        try clear c5b1
        try clear p6
        try clear c7
        try clear c7b0
        try clear c9
        try clear c9b0
        try clear c9b1
        try clear c11
        try clear c11b0
        try clear c11b1
        try clear c13
        try clear c13b0
        try clear c15
        try clear c15b0
        try clear c15b1
        try clear c16
        try clear c17
        try clear c17b0
        try clear c17b1
        try clear c18
        try clear c19
        try clear c19b0
        try clear c19b1
        try clear c22
        try clear c22b0
        try clear c24
        try clear c24b0
        try clear c24b1
        obtain ⟨x7_1, x8_1, rfl, rfl, HA, HK1, ⟨m1, rfl⟩⟩ := hrel
        cases gk with
        | zero => exact absurd HA.out (by simp [laws_lwWord.l0])
        | succ k1 =>
         have H := HA.out
         clear HA
         simp only [laws_lwWord.l0] at H
         by_cases c26 : x8_1 < 8
         · rw [if_pos c26] at H
           have c26b0 : decide (x8_1 < 8) = true := decide_eq_true c26
           clear c26
           replace H := Option.bind_eq_some_iff.mp H
           obtain ⟨t178, A270, H⟩ := H
           replace H : (laws_lwWord.l0 k1 l0 a1 a2 (Go.bits .or .u64 (IntKind.u64.wrap (x7_1 * 256)) (IntKind.u64.wrap (t178))) (wrap64 (x8_1 + 1))) = some r := H
           have A27 := Aside0.mk A270
           clear A270
           have H' := Aside0.mk H
           clear H
           go_wp2_with (first | ((with_reducible refine gate_callee (f := 16) rfl ?_); refine goesL_ (some 23) rfl rfl Tryd.func16 (by kernel_rfl) rfl #[.slice A0 l0.length c0, .int .i64 (wrap64 ((wrap64 (a1 + 1)) + x8_1)), .int .i64 256] rfl (by (try simp only [List.map_toArray, List.map_cons, List.map_nil]); first | done | rfl | (simp only [List.length_drop, List.length_take]; rfl)) ?_; (with_reducible refine (laws_lwAt.calls _ _ l0 (wrap64 ((wrap64 (a1 + 1)) + x8_1)) 256 t178 _ ?side1 ?side2 A27.out).mono ?_); (case side1 => repeat (first | exact HR0.out | (with_reducible refine Kd.C_alloc ?_ _) | (with_reducible refine Kd.C_drewN ?_ _) | (with_reducible refine Kd.C_drew ?_))); (case side2 => exact HC0.out); rintro e w' ⟨rfl, ⟨nd, rfl⟩⟩; refine ⟨_, rfl, ?_⟩))
           go_roundg k1
           case measure => have := HK1.out; omega
           case rel => exact ⟨(Go.bits .or .u64 (IntKind.u64.wrap (x7_1 * 256)) (IntKind.u64.wrap (t178))), (wrap64 (x8_1 + 1)), (by first | rfl | (simp; done) | (simp [*]; done)), (by first | rfl | (simp; done) | (simp [*]; done)), H', ⟨by have := HK1.out; omega⟩, by repeat (first | exact Drawn0.refl _ | apply Drawn0.step)⟩
         · rw [if_neg c26] at H
           have c26b0 : decide (x8_1 < 8) = false := decide_eq_false c26
           clear c26
           by_cases c28 : a2 < 64
           · rw [if_pos c28] at H
             have c28b0 : decide (a2 < 64) = true := decide_eq_true c28
             clear c28
             obtain ⟨ji29, hji29⟩ : ∃ j_ : Int, (IntKind.u64.wrap (a2)) = j_ := ⟨_, rfl⟩
             replace H : (if 0 ≤ (ji29) then (some (Go.bits .and .u64 x7_1 (IntKind.u64.wrap ((shl .u64 1 (ji29)) - 1)))) else (none)) = some r := by first | (rw [hji29] at H; exact H) | (simp only [hji29] at H ⊢; exact H)
             by_cases c30 : 0 ≤ (ji29)
             · rw [if_pos c30] at H
               have c30b0 := eq_true c30
               have c30b1 : decide (0 ≤ (ji29)) = true := decide_eq_true c30
               clear c30
               obtain ⟨ji31, hji31⟩ : ∃ j_ : Int, (shl .u64 1 (ji29)) = j_ := ⟨_, rfl⟩
               replace H : (some (Go.bits .and .u64 x7_1 (IntKind.u64.wrap ((ji31) - 1)))) = some r := by first | (rw [hji31] at H; exact H) | (simp only [hji31] at H ⊢; exact H)
               have hji31_ : (IntKind.u64.wrap (1 * 2 ^ min (ji29).toNat 64)) = ji31 := hji31
               have hji31z : (ji29) ≤ 64 → (IntKind.u64.wrap (1 * 2 ^ (ji29).toNat)) = ji31 := shl_small hji31
               have hji31u : (IntKind.u64.wrap (2 ^ min (ji29).toNat 64)) = ji31 := by have h_ := hji31_; rw [Int.one_mul] at h_; exact h_
               have hji31v : (ji29) ≤ 64 → (IntKind.u64.wrap (2 ^ (ji29).toNat)) = ji31 := fun hle_ => by have h_ := hji31z hle_; rw [Int.one_mul] at h_; exact h_
               obtain rfl := Option.some.inj H
               go_wp2
               go_ret
               exact ⟨by first | rfl | (simp; done) | (simp only [← hji29, ← hji31] <;> (first | rfl | simp)) | (simp [*]; done), by repeat (first | exact Drawn0.refl _ | apply Drawn0.step)⟩
             · rw [if_neg c30] at H
               exact absurd H (by simp)
           · rw [if_neg c28] at H
             have c28b0 : decide (a2 < 64) = false := decide_eq_false c28
             clear c28
             obtain rfl := Option.some.inj H
             go_wp2
             go_ret
             exact ⟨by first | rfl | (simp; done) | (simp [*]; done), by repeat (first | exact Drawn0.refl _ | apply Drawn0.step)⟩

end Go.Proofs.YtkohjiajbdkcbaaDoor.All


namespace Go.Proofs.YtkohjiajbdkcbaaDoor.All
open Go.RowKit Go.Proofs.YtkohjiajbdkcbaaDoorW.PrintWords Go.Proofs.YtkohjiajbdkcbaaDoorW.PrintLast Go.Proofs.YtkohjiajbdkcbaaDoorW.PrintMore
attribute [local go_sem] max2_int min2_int max_two min_two max_three min_three max_four min_four   -- for this text's walks alone
set_option linter.unusedVariables false
set_option linter.unusedSimpArgs false

/-! ### impl_Cast: function 19 -/
mutual
def impl_Cast.j0 : Nat → Int → Int → Int → Int → Bool → Int → Int → Option (Int × Int)
 | 0, _, _, _, _, _, _, _ => none
 | k + 1, x0, x1, x2, x3, x19, x181000, x181001 => if x19 = true then (some (x181000, x181001)) else (if x0 = 16 then (impl_Cast.j1 k x0 x1 x2 x3 (decide (x2 > x1)) x181000 x181001) else (impl_Cast.j1 k x0 x1 x2 x3 false x181000 x181001))
def impl_Cast.j1 : Nat → Int → Int → Int → Int → Bool → Int → Int → Option (Int × Int)
 | 0, _, _, _, _, _, _, _ => none
 | k + 1, x0, x1, x2, x3, x21, x181000, x181001 => if x21 = true then (some (0, x3)) else (if x0 = 17 then (impl_Cast.j2 k x0 x1 x2 x3 (decide (x2 > x1)) x181000 x181001) else (impl_Cast.j2 k x0 x1 x2 x3 false x181000 x181001))
def impl_Cast.j2 : Nat → Int → Int → Int → Int → Bool → Int → Int → Option (Int × Int)
 | 0, _, _, _, _, _, _, _ => none
 | k + 1, x0, x1, x2, x3, x31, x181000, x181001 => if x31 = true then ((impl_Signed.f x1 x3).bind fun t183 => ((impl_Cut.f x2 (IntKind.u64.wrap (t183))).bind fun t184 => (some (0, t184)))) else (if x0 = 18 then (if x2 < x1 then ((impl_Cut.f x2 x3).bind fun t185 => (some (0, t185))) else (some (x181000, x181001))) else (some (x181000, x181001)))
end
def impl_Cast.f (k : Nat) (a0 : Int) (a1 : Int) (a2 : Int) (a3 : Int) : Option (Int × Int) := (impl_isWord.f a1 a3).bind fun t181 => (if t181 = true then ((impl_ValidWidth.f a2).bind fun t182 => (impl_Cast.j0 k a0 a1 a2 a3 (!t182) 3 0)) else (impl_Cast.j0 k a0 a1 a2 a3 true 3 0))
set_option maxHeartbeats 8000000 in
set_option maxRecDepth 100000 in
theorem impl_Cast.calls (k : Nat) (a0 : Int) (a1 : Int) (a2 : Int) (a3 : Int) (r1 : Int) (r2 : Int) (w : World) (h : impl_Cast.f k a0 a1 a2 a3 = some (r1, r2)) :
 Calls Tryd.prog 19 #[.int .i64 a0, .int .i64 a1, .int .i64 a2, .int .u64 a3] w fun e w' => e = .returned (.agg #[.int .i64 r1, .int .u64 r2]) ∧ Below w.heap.size w w' := by
 have hu46 := Tryd.underlying46
 have HB := Aside0.mk (Below.refl w.heap.size w)
 have H : ((impl_isWord.f a1 a3).bind fun t181 => (if t181 = true then ((impl_ValidWidth.f a2).bind fun t182 => (impl_Cast.j0 k a0 a1 a2 a3 (!t182) 3 0)) else (impl_Cast.j0 k a0 a1 a2 a3 true 3 0))) = some (r1, r2) := h
 clear h
 have HC5 := Aside0.mk H
 clear H
 go_enter Tryd.func19, Tryd.ntmps19
 go_upto_region 2 with (first | ((with_reducible refine gate_dst (N := 8) rfl ?_); refine box_event ?hg (N := 8) ?hd (cs := #[.int .i64 0, .int .u64 0]) (t := 46) ?hr ?_; (case hd => rfl); (case hg => rfl); (case hr => first | (go_simp; done) | (go_simp; rfl)); intro gb179 hg w6 hbox hb; have n0_ := Aside0.mk (below_step (by repeat (first | (with_reducible first | exact HB.out | apply below_alloc | apply pw_below_drewN | apply below_drew1) | exact HB.out)) hb); have n1_ := Aside0.mk (hbox); have n2_ := Aside0.mk ((by rw [hg]; exact (below_size (by repeat (first | (with_reducible first | exact HB.out | apply below_alloc | apply pw_below_drewN | apply below_drew1) | exact HB.out))) : w.heap.size ≤ gb179)); have n3_ := Aside0.mk ((by rw [hg]; exact (below_size (by repeat (first | (with_reducible first | exact HB.out | apply below_alloc | apply pw_below_drewN | apply below_drew1) | exact HB.out))) : w.heap.size ≤ gb179)); clear HB; have HB := n0_; have BK179 := n1_; have GW179 := n2_; have GE179 := n3_; clear n0_ n1_ n2_ n3_; clear hb hbox hg) | ((with_reducible refine gate_dst (N := 9) rfl ?_); refine box_event ?hg (N := 9) ?hd (cs := #[.int .i64 0, .int .u64 0]) (t := 46) ?hr ?_; (case hd => rfl); (case hg => rfl); (case hr => first | (go_simp; done) | (go_simp; rfl)); intro gb180 hg w7 hbox hb; have n0_ := Aside0.mk (blk_below (g := gb179) (o := .cells #[.int .i64 0, .int .u64 0] 46 (0, 0)) (by (with_reducible repeat (first | refine blk_drewN ?_ _ | refine blk_drew ?_ | refine blk_alloc ?_ _)); exact BK179.out) hb); have n1_ := Aside0.mk (below_step (by repeat (first | (with_reducible first | exact HB.out | apply below_alloc | apply pw_below_drewN | apply below_drew1 | refine below_set ?_ GE179.out) | exact HB.out)) hb); have n2_ := Aside0.mk (hbox); have n3_ := Aside0.mk ((by rw [hg]; exact (below_size (by repeat (first | (with_reducible first | exact HB.out | apply below_alloc | apply pw_below_drewN | apply below_drew1 | refine below_set ?_ GE179.out) | exact HB.out))) : w.heap.size ≤ gb180)); have n4_ := Aside0.mk ((by rw [hg]; exact (below_size (by repeat (first | (with_reducible first | exact HB.out | apply below_alloc | apply pw_below_drewN | apply below_drew1 | refine below_set ?_ GE179.out) | exact HB.out))) : w.heap.size ≤ gb180)); have n5_ := Aside0.mk ((by rw [hg]; exact Nat.ne_of_lt (blk_lt (g := gb179) (o := .cells #[.int .i64 0, .int .u64 0] 46 (0, 0)) (by (with_reducible repeat (first | refine blk_drewN ?_ _ | refine blk_drew ?_ | refine blk_alloc ?_ _)); exact BK179.out)) : gb179 ≠ gb180)); have n6_ := Aside0.mk ((by rw [hg]; exact Nat.ne_of_gt (blk_lt (g := gb179) (o := .cells #[.int .i64 0, .int .u64 0] 46 (0, 0)) (by (with_reducible repeat (first | refine blk_drewN ?_ _ | refine blk_drew ?_ | refine blk_alloc ?_ _)); exact BK179.out)) : gb180 ≠ gb179)); clear BK179; clear HB; have BK179 := n0_; have HB := n1_; have BK180 := n2_; have GW180 := n3_; have GE180 := n4_; have NB179_180 := n5_; have NB180_179 := n6_; clear n0_ n1_ n2_ n3_ n4_ n5_ n6_; clear hb hbox hg; have hnb8 := NB180_179.out; have hnc8 := NB179_180.out; have hcz9_0 : w7.cell? ⟨gb180, 0, none⟩ = some (.int .i64 0) := (blk_cell BK180.out 0).trans rfl; have hcz9_1 : w7.cell? ⟨gb180, 1, none⟩ = some (.int .u64 0) := (blk_cell BK180.out 1).trans rfl; have hfz9_0 := blk_frozen BK180.out 0; have hfz9_1 := blk_frozen BK180.out 1))
 (try simp only [Act.put, List.setIfInBounds_toArray, List.set_cons_zero, List.set_cons_succ])
 go_cut [19] (fun v19 wc => ∃ (kq : Nat) (x19_4 : Bool), v19 = .bool x19_4 ∧ Aside0 (impl_Cast.j0 kq a0 a1 a2 a3 x19_4 3 0 = some (r1, r2)) ∧ Aside0 (kq ≤ k) ∧ Aside0 (wc.heap[gb179]? = some (.cells #[.int .i64 0, .int .u64 0] 46 (0, 0))) ∧ Aside0 (wc.heap[gb180]? = some (.cells #[.int .i64 3, .int .u64 0] 46 (0, 0))) ∧ Aside0 (Below w.heap.size w wc))
 case first =>
  have H := HC5.out
  clear HC5
  replace H := Option.bind_eq_some_iff.mp H
  obtain ⟨t181, A100, H⟩ := H
  replace H : (if t181 = true then ((impl_ValidWidth.f a2).bind fun t182 => (impl_Cast.j0 k a0 a1 a2 a3 (!t182) 3 0)) else (impl_Cast.j0 k a0 a1 a2 a3 true 3 0)) = some (r1, r2) := H
  have A10 := Aside0.mk A100
  clear A100
  by_cases c11 : t181 = true
  · subst c11
    have H1 : ((impl_ValidWidth.f a2).bind fun t182 => (impl_Cast.j0 k a0 a1 a2 a3 (!t182) 3 0)) = some (r1, r2) := by rw [if_pos rfl] at H; exact H
    clear H
    have H := H1
    clear H1
    replace H := Option.bind_eq_some_iff.mp H
    obtain ⟨t182, A120, H⟩ := H
    replace H : (impl_Cast.j0 k a0 a1 a2 a3 (!t182) 3 0) = some (r1, r2) := H
    have A12 := Aside0.mk A120
    clear A120
    have H' := Aside0.mk H
    clear H
    go_wp2_with (first | ((with_reducible refine gate_callee (f := 48) rfl ?_); refine goesL_ (some 13) rfl rfl Tryd.func48 (by kernel_rfl) rfl #[.int .i64 a1, .int .u64 a3] rfl (by (try simp only [List.map_toArray, List.map_cons, List.map_nil]); first | done | rfl | (simp only [List.length_drop, List.length_take]; rfl)) ?_; (with_reducible refine (impl_isWord.calls a1 a3 true _ A10.out).mono ?_); rintro e w' ⟨rfl, ⟨nd, rfl⟩⟩; refine ⟨_, rfl, ?_⟩) | (go_at_call 46; (with_reducible refine (impl_ValidWidth.calls a2 t182 _ A12.out).mono ?_); rintro e w' ⟨rfl, ⟨nd, rfl⟩⟩))
    go_meet
    case rel => exact ⟨_, (!t182), (by first | rfl | (simp; done) | (simp [*]; done)), H', ⟨by first | omega | exact Nat.le_refl _⟩, ⟨by (with_reducible repeat (first | refine blk_drewN ?_ _ | refine blk_drew ?_ | refine blk_alloc ?_ _)); refine blk_far ?_ NB179_180.out _; (with_reducible repeat (first | refine blk_drewN ?_ _ | refine blk_drew ?_ | refine blk_alloc ?_ _)); refine blk_far ?_ NB179_180.out _; (with_reducible repeat (first | refine blk_drewN ?_ _ | refine blk_drew ?_ | refine blk_alloc ?_ _)); exact BK179.out⟩, ⟨by (with_reducible repeat (first | refine blk_drewN ?_ _ | refine blk_drew ?_ | refine blk_alloc ?_ _)); refine blk_put (cs := #[.int .i64 3, .int .u64 0]) ?_ 1 _ rfl; (with_reducible repeat (first | refine blk_drewN ?_ _ | refine blk_drew ?_ | refine blk_alloc ?_ _)); refine blk_put (cs := #[.int .i64 0, .int .u64 0]) ?_ 0 _ rfl; (with_reducible repeat (first | refine blk_drewN ?_ _ | refine blk_drew ?_ | refine blk_alloc ?_ _)); exact BK180.out⟩, ⟨by repeat (first | (with_reducible first | exact HB.out | apply below_alloc | apply pw_below_drewN | apply below_drew1 | refine below_set ?_ GE179.out | refine below_set ?_ GE180.out) | exact HB.out)⟩⟩
  · replace c11 := Bool.eq_false_iff.mpr c11
    subst c11
    have H1 : (impl_Cast.j0 k a0 a1 a2 a3 true 3 0) = some (r1, r2) := by rw [if_neg (show ¬ (false = true) by decide)] at H; exact H
    clear H
    have H := H1
    clear H1
    have H' := Aside0.mk H
    clear H
    go_wp2_with (first | ((with_reducible refine gate_callee (f := 48) rfl ?_); refine goesL_ (some 13) rfl rfl Tryd.func48 (by kernel_rfl) rfl #[.int .i64 a1, .int .u64 a3] rfl (by (try simp only [List.map_toArray, List.map_cons, List.map_nil]); first | done | rfl | (simp only [List.length_drop, List.length_take]; rfl)) ?_; (with_reducible refine (impl_isWord.calls a1 a3 false _ A10.out).mono ?_); rintro e w' ⟨rfl, ⟨nd, rfl⟩⟩; refine ⟨_, rfl, ?_⟩))
    go_meet
    case rel => exact ⟨_, (true), (by first | rfl | (simp; done) | (simp [*]; done)), H', ⟨by first | omega | exact Nat.le_refl _⟩, ⟨by (with_reducible repeat (first | refine blk_drewN ?_ _ | refine blk_drew ?_ | refine blk_alloc ?_ _)); refine blk_far ?_ NB179_180.out _; (with_reducible repeat (first | refine blk_drewN ?_ _ | refine blk_drew ?_ | refine blk_alloc ?_ _)); refine blk_far ?_ NB179_180.out _; (with_reducible repeat (first | refine blk_drewN ?_ _ | refine blk_drew ?_ | refine blk_alloc ?_ _)); exact BK179.out⟩, ⟨by (with_reducible repeat (first | refine blk_drewN ?_ _ | refine blk_drew ?_ | refine blk_alloc ?_ _)); refine blk_put (cs := #[.int .i64 3, .int .u64 0]) ?_ 1 _ rfl; (with_reducible repeat (first | refine blk_drewN ?_ _ | refine blk_drew ?_ | refine blk_alloc ?_ _)); refine blk_put (cs := #[.int .i64 0, .int .u64 0]) ?_ 0 _ rfl; (with_reducible repeat (first | refine blk_drewN ?_ _ | refine blk_drew ?_ | refine blk_alloc ?_ _)); exact BK180.out⟩, ⟨by repeat (first | (with_reducible first | exact HB.out | apply below_alloc | apply pw_below_drewN | apply below_drew1 | refine below_set ?_ GE179.out | refine below_set ?_ GE180.out) | exact HB.out)⟩⟩
 case rest =>
  clear HC5
  try clear c1
  try clear p2
  try clear c4
  try clear c8
  try clear c11
  try clear hcz9_0
  try clear hcz9_1
  try clear hfz9_0
  try clear hfz9_1
  obtain ⟨kq, x19_4, rfl, HA, HJ4, BK179, BK180, HB⟩ := hcut
  cases kq with
  | zero => exact absurd HA.out (by simp [impl_Cast.j0])
  | succ kj4 =>
   have H := HA.out
   clear HA
   simp only [impl_Cast.j0] at H
   by_cases c13 : x19_4 = true
   · subst c13
     have H1 : (some (3, 0)) = some (r1, r2) := by rw [if_pos rfl] at H; exact H
     clear H
     have H := H1
     clear H1
     simp only [Option.some.injEq, Prod.mk.injEq] at H
     obtain ⟨rfl, rfl⟩ := H
     have hnb14 := NB180_179.out
     have hnc14 := NB179_180.out
     have hcz15_0 : wc.cell? ⟨gb180, 0, none⟩ = some (.int .i64 3) := (blk_cell BK180.out 0).trans rfl
     have hcz15_1 : wc.cell? ⟨gb180, 1, none⟩ = some (.int .u64 0) := (blk_cell BK180.out 1).trans rfl
     have hfz15_0 := blk_frozen BK180.out 0
     have hfz15_1 := blk_frozen BK180.out 1
     have hcz16_0 : wc.cell? ⟨gb179, 0, none⟩ = some (.int .i64 0) := (blk_cell BK179.out 0).trans rfl
     have hcz16_1 : wc.cell? ⟨gb179, 1, none⟩ = some (.int .u64 0) := (blk_cell BK179.out 1).trans rfl
     have hfz16_0 := blk_frozen BK179.out 0
     have hfz16_1 := blk_frozen BK179.out 1
     go_wp2
     refine bodyPost_ret (results_cell_row rfl _ _ gb179 46 #[.int .i64 3, .int .u64 0] (0, 0) _ rfl (by (with_reducible repeat (first | refine blk_drewN ?_ _ | refine blk_drew ?_ | refine blk_alloc ?_ _)); refine blk_put (cs := #[.int .i64 3, .int .u64 0]) ?_ 1 _ rfl; (with_reducible repeat (first | refine blk_drewN ?_ _ | refine blk_drew ?_ | refine blk_alloc ?_ _)); refine blk_put (cs := #[.int .i64 0, .int .u64 0]) ?_ 0 _ rfl; (with_reducible repeat (first | refine blk_drewN ?_ _ | refine blk_drew ?_ | refine blk_alloc ?_ _)); exact BK179.out) Tryd.underlying46 rfl (by kernel_rfl)) rfl ?_
     exact ⟨by first | rfl | (simp [errW_none, errW_some] <;> rfl) | (simp [*, errW_none, errW_some] <;> rfl), by repeat (first | (with_reducible first | exact HB.out | apply below_alloc | apply pw_below_drewN | apply below_drew1 | refine below_set ?_ GE179.out | refine below_set ?_ GE180.out) | exact HB.out)⟩
   · replace c13 := Bool.eq_false_iff.mpr c13
     subst c13
     have H1 : (if a0 = 16 then (impl_Cast.j1 kj4 a0 a1 a2 a3 (decide (a2 > a1)) 3 0) else (impl_Cast.j1 kj4 a0 a1 a2 a3 false 3 0)) = some (r1, r2) := by rw [if_neg (show ¬ (false = true) by decide)] at H; exact H
     clear H
     have H := H1
     clear H1
     have HC17 := Aside0.mk H
     clear H
     go_upto_region 4 with (fail)
     go_cut [21] (fun v21 wc => ∃ (kq : Nat) (x21_16 : Bool), v21 = .bool x21_16 ∧ Aside0 (impl_Cast.j1 kq a0 a1 a2 a3 x21_16 3 0 = some (r1, r2)) ∧ Aside0 (kq ≤ kj4) ∧ Aside0 (wc.heap[gb179]? = some (.cells #[.int .i64 0, .int .u64 0] 46 (0, 0))) ∧ Aside0 (wc.heap[gb180]? = some (.cells #[.int .i64 3, .int .u64 0] 46 (0, 0))) ∧ Aside0 (Below w.heap.size w wc))
     case first =>
      have H := HC17.out
      clear HC17
      by_cases c18 : a0 = 16
      · rw [if_pos c18] at H
        have c18b0 : (a0 == 16) = true := beq_iff_eq.mpr c18
        have c18b1 : (a0 != 16) = false := bne_eq_false_iff_eq.mpr c18
        clear c18
        (first | rw [c18b0] | (simp only [i64_w, i32_w]; rw [c18b0]) | skip)
        have H' := Aside0.mk H
        clear H
        go_wp2
        go_meet
        case rel => exact ⟨_, (decide (a2 > a1)), (by first | rfl | (simp; done) | (simp [*]; done)), H', ⟨by have := HJ4.out; first | omega | exact Nat.le_refl _⟩, ⟨by (with_reducible repeat (first | refine blk_drewN ?_ _ | refine blk_drew ?_ | refine blk_alloc ?_ _)); exact BK179.out⟩, ⟨by (with_reducible repeat (first | refine blk_drewN ?_ _ | refine blk_drew ?_ | refine blk_alloc ?_ _)); exact BK180.out⟩, ⟨by repeat (first | (with_reducible first | exact HB.out | apply below_alloc | apply pw_below_drewN | apply below_drew1 | refine below_set ?_ GE179.out | refine below_set ?_ GE180.out) | exact HB.out)⟩⟩
      · rw [if_neg c18] at H
        have c18b0 : (a0 == 16) = false := beq_eq_false_iff_ne.mpr c18
        have c18b1 : (a0 != 16) = true := bne_iff_ne.mpr c18
        (first | rw [c18b0] | (simp only [i64_w, i32_w]; rw [c18b0]) | skip)
        have H' := Aside0.mk H
        clear H
        go_wp2
        go_meet
        case rel => exact ⟨_, (false), (by first | rfl | (simp; done) | (simp [*]; done)), H', ⟨by have := HJ4.out; first | omega | exact Nat.le_refl _⟩, ⟨by (with_reducible repeat (first | refine blk_drewN ?_ _ | refine blk_drew ?_ | refine blk_alloc ?_ _)); exact BK179.out⟩, ⟨by (with_reducible repeat (first | refine blk_drewN ?_ _ | refine blk_drew ?_ | refine blk_alloc ?_ _)); exact BK180.out⟩, ⟨by repeat (first | (with_reducible first | exact HB.out | apply below_alloc | apply pw_below_drewN | apply below_drew1 | refine below_set ?_ GE179.out | refine below_set ?_ GE180.out) | exact HB.out)⟩⟩
     case rest =>
      clear HC17
      try clear c1
      try clear p2
      try clear c4
      try clear c8
      try clear c11
      try clear c13
      try clear c14
      try clear c18
      try clear c18b0
      try clear c18b1
      try clear hcz15_0
      try clear hcz15_1
      try clear hcz16_0
      try clear hcz16_1
      try clear hcz9_0
      try clear hcz9_1
      try clear hfz15_0
      try clear hfz15_1
      try clear hfz16_0
      try clear hfz16_1
      try clear hfz9_0
      try clear hfz9_1
      try clear p2
      obtain ⟨kq, x21_16, rfl, HA, HJ16, BK179, BK180, HB⟩ := hcut
      cases kq with
      | zero => exact absurd HA.out (by simp [impl_Cast.j1])
      | succ kj16 =>
       have H := HA.out
       clear HA
       simp only [impl_Cast.j1] at H
       by_cases c19 : x21_16 = true
       · subst c19
         have H1 : (some (0, a3)) = some (r1, r2) := by rw [if_pos rfl] at H; exact H
         clear H
         have H := H1
         clear H1
         simp only [Option.some.injEq, Prod.mk.injEq] at H
         obtain ⟨rfl, rfl⟩ := H
         have hnb20 := NB179_180.out
         have hnc20 := NB180_179.out
         have hcz21_0 : wc.cell? ⟨gb179, 0, none⟩ = some (.int .i64 0) := (blk_cell BK179.out 0).trans rfl
         have hcz21_1 : wc.cell? ⟨gb179, 1, none⟩ = some (.int .u64 0) := (blk_cell BK179.out 1).trans rfl
         have hfz21_0 := blk_frozen BK179.out 0
         have hfz21_1 := blk_frozen BK179.out 1
         go_wp2
         refine bodyPost_ret (results_cell_row rfl _ _ gb179 46 #[.int .i64 0, .int .u64 a3] (0, 0) _ rfl (by (with_reducible repeat (first | refine blk_drewN ?_ _ | refine blk_drew ?_ | refine blk_alloc ?_ _)); refine blk_put (cs := #[.int .i64 0, .int .u64 0]) ?_ 1 _ rfl; (with_reducible repeat (first | refine blk_drewN ?_ _ | refine blk_drew ?_ | refine blk_alloc ?_ _)); refine blk_put (cs := #[.int .i64 0, .int .u64 0]) ?_ 0 _ rfl; (with_reducible repeat (first | refine blk_drewN ?_ _ | refine blk_drew ?_ | refine blk_alloc ?_ _)); exact BK179.out) Tryd.underlying46 rfl (by kernel_rfl)) rfl ?_
         exact ⟨by first | rfl | (simp [errW_none, errW_some] <;> rfl) | (simp [*, errW_none, errW_some] <;> rfl), by repeat (first | (with_reducible first | exact HB.out | apply below_alloc | apply pw_below_drewN | apply below_drew1 | refine below_set ?_ GE179.out | refine below_set ?_ GE180.out) | exact HB.out)⟩
       · replace c19 := Bool.eq_false_iff.mpr c19
         subst c19
         have H1 : (if a0 = 17 then (impl_Cast.j2 kj16 a0 a1 a2 a3 (decide (a2 > a1)) 3 0) else (impl_Cast.j2 kj16 a0 a1 a2 a3 false 3 0)) = some (r1, r2) := by rw [if_neg (show ¬ (false = true) by decide)] at H; exact H
         clear H
         have H := H1
         clear H1
         have HC22 := Aside0.mk H
         clear H
         go_upto_region 6 with (fail)
         go_cut [31] (fun v31 wc => ∃ (kq : Nat) (x31_21 : Bool), v31 = .bool x31_21 ∧ Aside0 (impl_Cast.j2 kq a0 a1 a2 a3 x31_21 3 0 = some (r1, r2)) ∧ Aside0 (kq ≤ kj16) ∧ Aside0 (wc.heap[gb179]? = some (.cells #[.int .i64 0, .int .u64 0] 46 (0, 0))) ∧ Aside0 (wc.heap[gb180]? = some (.cells #[.int .i64 3, .int .u64 0] 46 (0, 0))) ∧ Aside0 (Below w.heap.size w wc))
         case first =>
          have H := HC22.out
          clear HC22
          by_cases c23 : a0 = 17
          · rw [if_pos c23] at H
            have c23b0 : (a0 == 17) = true := beq_iff_eq.mpr c23
            have c23b1 : (a0 != 17) = false := bne_eq_false_iff_eq.mpr c23
            clear c23
            (first | rw [c23b0] | (simp only [i64_w, i32_w]; rw [c23b0]) | skip)
            have H' := Aside0.mk H
            clear H
            go_wp2
            go_meet
            case rel => exact ⟨_, (decide (a2 > a1)), (by first | rfl | (simp; done) | (simp [*]; done)), H', ⟨by have := HJ4.out; have := HJ16.out; first | omega | exact Nat.le_refl _⟩, ⟨by (with_reducible repeat (first | refine blk_drewN ?_ _ | refine blk_drew ?_ | refine blk_alloc ?_ _)); exact BK179.out⟩, ⟨by (with_reducible repeat (first | refine blk_drewN ?_ _ | refine blk_drew ?_ | refine blk_alloc ?_ _)); exact BK180.out⟩, ⟨by repeat (first | (with_reducible first | exact HB.out | apply below_alloc | apply pw_below_drewN | apply below_drew1 | refine below_set ?_ GE179.out | refine below_set ?_ GE180.out) | exact HB.out)⟩⟩
          · rw [if_neg c23] at H
            have c23b0 : (a0 == 17) = false := beq_eq_false_iff_ne.mpr c23
            have c23b1 : (a0 != 17) = true := bne_iff_ne.mpr c23
            (first | rw [c23b0] | (simp only [i64_w, i32_w]; rw [c23b0]) | skip)
            have H' := Aside0.mk H
            clear H
            go_wp2
            go_meet
            case rel => exact ⟨_, (false), (by first | rfl | (simp; done) | (simp [*]; done)), H', ⟨by have := HJ4.out; have := HJ16.out; first | omega | exact Nat.le_refl _⟩, ⟨by (with_reducible repeat (first | refine blk_drewN ?_ _ | refine blk_drew ?_ | refine blk_alloc ?_ _)); exact BK179.out⟩, ⟨by (with_reducible repeat (first | refine blk_drewN ?_ _ | refine blk_drew ?_ | refine blk_alloc ?_ _)); exact BK180.out⟩, ⟨by repeat (first | (with_reducible first | exact HB.out | apply below_alloc | apply pw_below_drewN | apply below_drew1 | refine below_set ?_ GE179.out | refine below_set ?_ GE180.out) | exact HB.out)⟩⟩
         case rest =>
          clear HC22
          try clear c1
          try clear c2
          try clear p2
          try clear c4
          try clear c8
          try clear c11
          try clear c13
          try clear c14
          try clear c18
          try clear c18b0
          try clear c18b1
          try clear c19
          try clear c20
          try clear c23
          try clear c23b0
          try clear c23b1
          try clear hcz15_0
          try clear hcz15_1
          try clear hcz16_0
          try clear hcz16_1
          try clear hcz21_0
          try clear hcz21_1
          try clear hcz9_0
          try clear hcz9_1
          try clear hfz15_0
          try clear hfz15_1
          try clear hfz16_0
          try clear hfz16_1
          try clear hfz21_0
          try clear hfz21_1
          try clear hfz9_0
          try clear hfz9_1
          try clear p2
          obtain ⟨kq, x31_21, rfl, HA, HJ21, BK179, BK180, HB⟩ := hcut
          cases kq with
          | zero => exact absurd HA.out (by simp [impl_Cast.j2])
          | succ kj21 =>
           have H := HA.out
           clear HA
           simp only [impl_Cast.j2] at H
           by_cases c24 : x31_21 = true
           · subst c24
             have H1 : ((impl_Signed.f a1 a3).bind fun t183 => ((impl_Cut.f a2 (IntKind.u64.wrap (t183))).bind fun t184 => (some (0, t184)))) = some (r1, r2) := by rw [if_pos rfl] at H; exact H
             clear H
             have H := H1
             clear H1
             replace H := Option.bind_eq_some_iff.mp H
             obtain ⟨t183, A250, H⟩ := H
             replace H : ((impl_Cut.f a2 (IntKind.u64.wrap (t183))).bind fun t184 => (some (0, t184))) = some (r1, r2) := H
             have A25 := Aside0.mk A250
             clear A250
             replace H := Option.bind_eq_some_iff.mp H
             obtain ⟨t184, A260, H⟩ := H
             replace H : (some (0, t184)) = some (r1, r2) := H
             have A26 := Aside0.mk A260
             clear A260
             simp only [Option.some.injEq, Prod.mk.injEq] at H
             obtain ⟨rfl, rfl⟩ := H
             go_wp2_with (first | ((with_reducible refine gate_callee (f := 20) rfl ?_); refine goesL_ (some 42) rfl rfl Tryd.func20 (by kernel_rfl) rfl #[.int .i64 a1, .int .u64 a3] rfl (by (try simp only [List.map_toArray, List.map_cons, List.map_nil]); first | done | rfl | (simp only [List.length_drop, List.length_take]; rfl)) ?_; (with_reducible refine (impl_Signed.calls a1 a3 t183 _ A25.out).mono ?_); rintro e w' ⟨rfl, ⟨nd, rfl⟩⟩; refine ⟨_, rfl, ?_⟩; (try (rw [drewN_self wc]; generalize hq_ : World.drewN wc _ = wc; have n0_ : Aside0 (wc.heap[gb179]? = some (.cells #[.int .i64 0, .int .u64 0] 46 (0, 0))) := ⟨by rw [← hq_]; exact (by (with_reducible repeat (first | refine blk_drewN ?_ _ | refine blk_drew ?_ | refine blk_alloc ?_ _)); exact BK179.out)⟩; have n1_ : Aside0 (wc.heap[gb180]? = some (.cells #[.int .i64 3, .int .u64 0] 46 (0, 0))) := ⟨by rw [← hq_]; exact (by (with_reducible repeat (first | refine blk_drewN ?_ _ | refine blk_drew ?_ | refine blk_alloc ?_ _)); exact BK180.out)⟩; have n2_ : Aside0 (Below w.heap.size w wc) := ⟨by rw [← hq_]; exact (by repeat (first | (with_reducible first | exact HB.out | apply below_alloc | apply pw_below_drewN | apply below_drew1 | refine below_set ?_ GE179.out | refine below_set ?_ GE180.out) | exact HB.out))⟩; clear BK179 BK180 HB hq_; have BK179 := n0_; have BK180 := n1_; have HB := n2_; clear n0_ n1_ n2_))) | ((with_reducible refine gate_callee (f := 21) rfl ?_); refine goesL_ (some 44) rfl rfl Tryd.func21 (by kernel_rfl) rfl #[.int .i64 a2, .int .u64 (IntKind.u64.wrap (t183))] rfl (by (try simp only [List.map_toArray, List.map_cons, List.map_nil]); first | done | rfl | (simp only [List.length_drop, List.length_take]; rfl)) ?_; (with_reducible refine (impl_Cut.calls a2 (IntKind.u64.wrap (t183)) t184 _ A26.out).mono ?_); rintro e w' ⟨rfl, ⟨nd, rfl⟩⟩; refine ⟨_, rfl, ?_⟩; (try (rw [drewN_self wc]; generalize hq_ : World.drewN wc _ = wc; have n0_ : Aside0 (wc.heap[gb179]? = some (.cells #[.int .i64 0, .int .u64 0] 46 (0, 0))) := ⟨by rw [← hq_]; exact (by (with_reducible repeat (first | refine blk_drewN ?_ _ | refine blk_drew ?_ | refine blk_alloc ?_ _)); exact BK179.out)⟩; have n1_ : Aside0 (wc.heap[gb180]? = some (.cells #[.int .i64 3, .int .u64 0] 46 (0, 0))) := ⟨by rw [← hq_]; exact (by (with_reducible repeat (first | refine blk_drewN ?_ _ | refine blk_drew ?_ | refine blk_alloc ?_ _)); exact BK180.out)⟩; have n2_ : Aside0 (Below w.heap.size w wc) := ⟨by rw [← hq_]; exact (by repeat (first | (with_reducible first | exact HB.out | apply below_alloc | apply pw_below_drewN | apply below_drew1 | refine below_set ?_ GE179.out | refine below_set ?_ GE180.out) | exact HB.out))⟩; clear BK179 BK180 HB hq_; have BK179 := n0_; have BK180 := n1_; have HB := n2_; clear n0_ n1_ n2_)); have hnb27 := NB179_180.out; have hnc27 := NB180_179.out; have hcz28_0 : wc.cell? ⟨gb179, 0, none⟩ = some (.int .i64 0) := (blk_cell BK179.out 0).trans rfl; have hcz28_1 : wc.cell? ⟨gb179, 1, none⟩ = some (.int .u64 0) := (blk_cell BK179.out 1).trans rfl; have hfz28_0 := blk_frozen BK179.out 0; have hfz28_1 := blk_frozen BK179.out 1))
             refine bodyPost_ret (results_cell_row rfl _ _ gb179 46 #[.int .i64 0, .int .u64 t184] (0, 0) _ rfl (by (with_reducible repeat (first | refine blk_drewN ?_ _ | refine blk_drew ?_ | refine blk_alloc ?_ _)); refine blk_put (cs := #[.int .i64 0, .int .u64 0]) ?_ 1 _ rfl; (with_reducible repeat (first | refine blk_drewN ?_ _ | refine blk_drew ?_ | refine blk_alloc ?_ _)); refine blk_put (cs := #[.int .i64 0, .int .u64 0]) ?_ 0 _ rfl; (with_reducible repeat (first | refine blk_drewN ?_ _ | refine blk_drew ?_ | refine blk_alloc ?_ _)); exact BK179.out) Tryd.underlying46 rfl (by kernel_rfl)) rfl ?_
             exact ⟨by first | rfl | (simp [errW_none, errW_some] <;> rfl) | (simp [*, errW_none, errW_some] <;> rfl), by repeat (first | (with_reducible first | exact HB.out | apply below_alloc | apply pw_below_drewN | apply below_drew1 | refine below_set ?_ GE179.out | refine below_set ?_ GE180.out) | exact HB.out)⟩
           · replace c24 := Bool.eq_false_iff.mpr c24
             subst c24
             have H1 : (if a0 = 18 then (if a2 < a1 then ((impl_Cut.f a2 a3).bind fun t185 => (some (0, t185))) else (some (3, 0))) else (some (3, 0))) = some (r1, r2) := by rw [if_neg (show ¬ (false = true) by decide)] at H; exact H
             clear H
             have H := H1
             clear H1
             by_cases c29 : a0 = 18
             · rw [if_pos c29] at H
               have c29b0 : (a0 == 18) = true := beq_iff_eq.mpr c29
               have c29b1 : (a0 != 18) = false := bne_eq_false_iff_eq.mpr c29
               clear c29
               by_cases c30 : a2 < a1
               · rw [if_pos c30] at H
                 have c30b0 : decide (a2 < a1) = true := decide_eq_true c30
                 clear c30
                 replace H := Option.bind_eq_some_iff.mp H
                 obtain ⟨t185, A310, H⟩ := H
                 replace H : (some (0, t185)) = some (r1, r2) := H
                 have A31 := Aside0.mk A310
                 clear A310
                 simp only [Option.some.injEq, Prod.mk.injEq] at H
                 obtain ⟨rfl, rfl⟩ := H
                 go_wp2_with (first | ((with_reducible refine gate_callee (f := 21) rfl ?_); refine goesL_ (some 56) rfl rfl Tryd.func21 (by kernel_rfl) rfl #[.int .i64 a2, .int .u64 a3] rfl (by (try simp only [List.map_toArray, List.map_cons, List.map_nil]); first | done | rfl | (simp only [List.length_drop, List.length_take]; rfl)) ?_; (with_reducible refine (impl_Cut.calls a2 a3 t185 _ A31.out).mono ?_); rintro e w' ⟨rfl, ⟨nd, rfl⟩⟩; refine ⟨_, rfl, ?_⟩; (try (rw [drewN_self wc]; generalize hq_ : World.drewN wc _ = wc; have n0_ : Aside0 (wc.heap[gb179]? = some (.cells #[.int .i64 0, .int .u64 0] 46 (0, 0))) := ⟨by rw [← hq_]; exact (by (with_reducible repeat (first | refine blk_drewN ?_ _ | refine blk_drew ?_ | refine blk_alloc ?_ _)); exact BK179.out)⟩; have n1_ : Aside0 (wc.heap[gb180]? = some (.cells #[.int .i64 3, .int .u64 0] 46 (0, 0))) := ⟨by rw [← hq_]; exact (by (with_reducible repeat (first | refine blk_drewN ?_ _ | refine blk_drew ?_ | refine blk_alloc ?_ _)); exact BK180.out)⟩; have n2_ : Aside0 (Below w.heap.size w wc) := ⟨by rw [← hq_]; exact (by repeat (first | (with_reducible first | exact HB.out | apply below_alloc | apply pw_below_drewN | apply below_drew1 | refine below_set ?_ GE179.out | refine below_set ?_ GE180.out) | exact HB.out))⟩; clear BK179 BK180 HB hq_; have BK179 := n0_; have BK180 := n1_; have HB := n2_; clear n0_ n1_ n2_)); have hnb32 := NB179_180.out; have hnc32 := NB180_179.out; have hcz33_0 : wc.cell? ⟨gb179, 0, none⟩ = some (.int .i64 0) := (blk_cell BK179.out 0).trans rfl; have hcz33_1 : wc.cell? ⟨gb179, 1, none⟩ = some (.int .u64 0) := (blk_cell BK179.out 1).trans rfl; have hfz33_0 := blk_frozen BK179.out 0; have hfz33_1 := blk_frozen BK179.out 1))
                 refine bodyPost_ret (results_cell_row rfl _ _ gb179 46 #[.int .i64 0, .int .u64 t185] (0, 0) _ rfl (by (with_reducible repeat (first | refine blk_drewN ?_ _ | refine blk_drew ?_ | refine blk_alloc ?_ _)); refine blk_put (cs := #[.int .i64 0, .int .u64 0]) ?_ 1 _ rfl; (with_reducible repeat (first | refine blk_drewN ?_ _ | refine blk_drew ?_ | refine blk_alloc ?_ _)); refine blk_put (cs := #[.int .i64 0, .int .u64 0]) ?_ 0 _ rfl; (with_reducible repeat (first | refine blk_drewN ?_ _ | refine blk_drew ?_ | refine blk_alloc ?_ _)); exact BK179.out) Tryd.underlying46 rfl (by kernel_rfl)) rfl ?_
                 exact ⟨by first | rfl | (simp [errW_none, errW_some] <;> rfl) | (simp [*, errW_none, errW_some] <;> rfl), by repeat (first | (with_reducible first | exact HB.out | apply below_alloc | apply pw_below_drewN | apply below_drew1 | refine below_set ?_ GE179.out | refine below_set ?_ GE180.out) | exact HB.out)⟩
               · rw [if_neg c30] at H
                 have c30b0 : decide (a2 < a1) = false := decide_eq_false c30
                 clear c30
                 simp only [Option.some.injEq, Prod.mk.injEq] at H
                 obtain ⟨rfl, rfl⟩ := H
                 have hnb34 := NB180_179.out
                 have hnc34 := NB179_180.out
                 have hcz35_0 : wc.cell? ⟨gb180, 0, none⟩ = some (.int .i64 3) := (blk_cell BK180.out 0).trans rfl
                 have hcz35_1 : wc.cell? ⟨gb180, 1, none⟩ = some (.int .u64 0) := (blk_cell BK180.out 1).trans rfl
                 have hfz35_0 := blk_frozen BK180.out 0
                 have hfz35_1 := blk_frozen BK180.out 1
                 have hcz36_0 : wc.cell? ⟨gb179, 0, none⟩ = some (.int .i64 0) := (blk_cell BK179.out 0).trans rfl
                 have hcz36_1 : wc.cell? ⟨gb179, 1, none⟩ = some (.int .u64 0) := (blk_cell BK179.out 1).trans rfl
                 have hfz36_0 := blk_frozen BK179.out 0
                 have hfz36_1 := blk_frozen BK179.out 1
                 go_wp2
                 refine bodyPost_ret (results_cell_row rfl _ _ gb179 46 #[.int .i64 3, .int .u64 0] (0, 0) _ rfl (by (with_reducible repeat (first | refine blk_drewN ?_ _ | refine blk_drew ?_ | refine blk_alloc ?_ _)); refine blk_put (cs := #[.int .i64 3, .int .u64 0]) ?_ 1 _ rfl; (with_reducible repeat (first | refine blk_drewN ?_ _ | refine blk_drew ?_ | refine blk_alloc ?_ _)); refine blk_put (cs := #[.int .i64 0, .int .u64 0]) ?_ 0 _ rfl; (with_reducible repeat (first | refine blk_drewN ?_ _ | refine blk_drew ?_ | refine blk_alloc ?_ _)); exact BK179.out) Tryd.underlying46 rfl (by kernel_rfl)) rfl ?_
                 exact ⟨by first | rfl | (simp [errW_none, errW_some] <;> rfl) | (simp [*, errW_none, errW_some] <;> rfl), by repeat (first | (with_reducible first | exact HB.out | apply below_alloc | apply pw_below_drewN | apply below_drew1 | refine below_set ?_ GE179.out | refine below_set ?_ GE180.out) | exact HB.out)⟩
             · rw [if_neg c29] at H
               have c29b0 : (a0 == 18) = false := beq_eq_false_iff_ne.mpr c29
               have c29b1 : (a0 != 18) = true := bne_iff_ne.mpr c29
               simp only [Option.some.injEq, Prod.mk.injEq] at H
               obtain ⟨rfl, rfl⟩ := H
               have hnb37 := NB180_179.out
               have hnc37 := NB179_180.out
               have hcz38_0 : wc.cell? ⟨gb180, 0, none⟩ = some (.int .i64 3) := (blk_cell BK180.out 0).trans rfl
               have hcz38_1 : wc.cell? ⟨gb180, 1, none⟩ = some (.int .u64 0) := (blk_cell BK180.out 1).trans rfl
               have hfz38_0 := blk_frozen BK180.out 0
               have hfz38_1 := blk_frozen BK180.out 1
               have hcz39_0 : wc.cell? ⟨gb179, 0, none⟩ = some (.int .i64 0) := (blk_cell BK179.out 0).trans rfl
               have hcz39_1 : wc.cell? ⟨gb179, 1, none⟩ = some (.int .u64 0) := (blk_cell BK179.out 1).trans rfl
               have hfz39_0 := blk_frozen BK179.out 0
               have hfz39_1 := blk_frozen BK179.out 1
               go_wp2
               refine bodyPost_ret (results_cell_row rfl _ _ gb179 46 #[.int .i64 3, .int .u64 0] (0, 0) _ rfl (by (with_reducible repeat (first | refine blk_drewN ?_ _ | refine blk_drew ?_ | refine blk_alloc ?_ _)); refine blk_put (cs := #[.int .i64 3, .int .u64 0]) ?_ 1 _ rfl; (with_reducible repeat (first | refine blk_drewN ?_ _ | refine blk_drew ?_ | refine blk_alloc ?_ _)); refine blk_put (cs := #[.int .i64 0, .int .u64 0]) ?_ 0 _ rfl; (with_reducible repeat (first | refine blk_drewN ?_ _ | refine blk_drew ?_ | refine blk_alloc ?_ _)); exact BK179.out) Tryd.underlying46 rfl (by kernel_rfl)) rfl ?_
               exact ⟨by first | rfl | (simp [errW_none, errW_some] <;> rfl) | (simp [*, errW_none, errW_some] <;> rfl), by repeat (first | (with_reducible first | exact HB.out | apply below_alloc | apply pw_below_drewN | apply below_drew1 | refine below_set ?_ GE179.out | refine below_set ?_ GE180.out) | exact HB.out)⟩

end Go.Proofs.YtkohjiajbdkcbaaDoor.All

