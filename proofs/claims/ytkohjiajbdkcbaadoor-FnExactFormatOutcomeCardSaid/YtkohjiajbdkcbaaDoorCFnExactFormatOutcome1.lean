/- Part 1 of the proof of FnExactFormatOutcome: functions of the translation with what they return, and plain laws of these. Written by programs of this session over the kit's print, and by hand. -/
import Derived.Test.YtkohjiajbdkcbaaDoorProg
import Derived.Test.YtkohjiajbdkcbaaDoorCFnExactFormatOutcomeWApart
import Derived.Test.YtkohjiajbdkcbaaDoorCFnExactFormatOutcomeWArr
import Derived.Test.YtkohjiajbdkcbaaDoorCFnExactFormatOutcomeWFoot
import Derived.Test.YtkohjiajbdkcbaaDoorCFnExactFormatOutcomeWKept
import Derived.Test.YtkohjiajbdkcbaaDoorCFnExactFormatOutcomeWLast
import Derived.Test.YtkohjiajbdkcbaaDoorCFnExactFormatOutcomeWMore
import Derived.Test.YtkohjiajbdkcbaaDoorCFnExactFormatOutcomeWN
import Derived.Test.YtkohjiajbdkcbaaDoorCFnExactFormatOutcomeWNEv
import Derived.Test.YtkohjiajbdkcbaaDoorCFnExactFormatOutcomeWQPut
import Derived.Test.YtkohjiajbdkcbaaDoorCFnExactFormatOutcomeWRepsOne
import Derived.Test.YtkohjiajbdkcbaaDoorCFnExactFormatOutcomeWShare
import Derived.Test.YtkohjiajbdkcbaaDoorCFnExactFormatOutcomeWTab
import Derived.Test.YtkohjiajbdkcbaaDoorCFnExactFormatOutcomeWWords
import Derived.Test.YtkohjiajbdkcbaaDoorCFnExactFormatOutcomeWZeros
import Derived.Below
import Derived.Deep.Draws
import Derived.Deep.AppendLies
import Derived.Maps.AppendAt
import Derived.OwnWalk
import Derived.Laws.BytesArg
import Derived.Laws.MakeOwn
import Derived.Laws.OwnMore
import Derived.Deep.OwnRows
import Derived.Tactics
import Derived.Lib.ConvBytes
import Derived.Laws.Slices
import Derived.WalkKit
import Derived.KernelRfl
import Derived.RowKit3
import Derived.Deep.LoopGhost
import Derived.Deep.QuietTactic
import Derived.BigQuiet
import Derived.WideLaws
import Derived.Deep.DeepCutAuto
import Derived.Deep.CutBlock
import Derived.Deep.RegionHeld3
import Derived.Laws.Rows
import Derived.Lib.AppendStr
import Derived.ArgAppend
import Derived.Laws.IdiomCopy
import Derived.OrdersHeld
import Derived.Laws.BitsLemmas
import Derived.RowKit
import Derived.Lib.LaidTab
import Derived.Lib.ItoaNum
import Derived.Sort.Grow
import Derived.Lib.ItoaLen
import Derived.Shelf.Strings.Builder1
import Derived.Lib.Builder
import Derived.Shelf.LaysM
import Derived.Shelf.LaysC
import Derived.Shelf.Strconv.Itoa4
import Derived.Shelf.Strconv.Itoa1
import Derived.Laws.BitsAllLaws
import Derived.Lib.ParseIntBCases
import Derived.Deep.Slices
import Derived.ChangeArms
import Derived.OpenShut
import Derived.Stop.LaidErr
import Derived.LaidMore
import Derived.ProofKit
import Derived.ShutString
import Derived.ChangeOld
import Derived.SizedLaws
import Derived.Deep.DeepHandedRow
import Derived.Deep.DeepWitnessRowRef
import Derived.SevenTiedAt
namespace Go.Proofs.YtkohjiajbdkcbaaDoor.All
open Go.RowKit Go.Proofs.YtkohjiajbdkcbaaDoorW.PrintWords Go.Proofs.YtkohjiajbdkcbaaDoorW.PrintLast Go.Proofs.YtkohjiajbdkcbaaDoorW.PrintMore
attribute [local go_sem] max2_int min2_int max_two min_two max_three min_three max_four min_four   -- for this text's walks alone
set_option linter.unusedVariables false
set_option linter.unusedSimpArgs false



def errW : Option Int → Value
  | none => .nilIface
  | some c => .iface 160 (.int .i64 c)
theorem errW_none : errW none = .nilIface := rfl
theorem errW_some (c : Int) : errW (some c) = .iface 160 (.int .i64 c) := rfl

theorem info5 : (Tryd.prog.info? 5).map (fun i => (i.zero, i.size, i.bytes)) = some (some (.int .u8 0), 1, 1) := by kernel_rfl
theorem info22 : (Tryd.prog.info? 22).map (fun i => (i.zero, i.size, i.bytes)) = some (some (.int .u64 0), 1, 8) := by kernel_rfl
-- the values' own types
/-! #### struct type 135 -/
structure S135 where
  f0 : ByteArray
  f1 : Bool
  f2 : Int
/-! #### struct type 109 -/
structure S109 where
  f0 : ByteArray
  f1 : Bool
  f2 : Int
/-! #### struct type 141 -/
structure S141 where
  f0 : ByteArray
  f1 : Int
  f2 : Bool
  f3 : Int
  f4 : (List Int)
/-! #### struct type 69 -/
structure S69 where
  f0 : Int
  f1 : Int
  f2 : Int
  f3 : Int
/-! #### struct type 202 -/
structure S202 where
  f0 : Int
  f1 : Int
  f2 : Int
  f3 : Int
  f4 : Int
  f5 : Int
  f6 : (List S69)
  f7 : (List Int)
  f8 : (List Int)
/-! #### struct type 184 -/
structure S184 where
  f0 : (List S202)
/-! #### struct type 145 -/
structure S145 where
  f0 : ByteArray
  f1 : Int
  f2 : (List Int)
  f3 : Int
  f4 : (List S184)
/-! #### struct type 127 -/
structure S127 where
  f0 : ByteArray
  f1 : Int
  f2 : Bool
  f3 : Int
  f4 : (List Int)
def z127 : S127 := ⟨(⟨#[]⟩ : ByteArray), (0 : Int), false, (0 : Int), ([] : List Int)⟩
/-! #### struct type 77 -/
structure S77 where
  f0 : Int
  f1 : Int
  f2 : Int
  f3 : Int
/-! #### struct type 205 -/
structure S205 where
  f0 : Int
  f1 : Int
  f2 : Int
  f3 : Int
  f4 : Int
  f5 : Int
  f6 : (List S77)
  f7 : (List Int)
  f8 : (List Int)
/-! #### struct type 187 -/
structure S187 where
  f0 : (List S205)
/-! #### struct type 149 -/
structure S149 where
  f0 : ByteArray
  f1 : Int
  f2 : (List Int)
  f3 : Int
  f4 : (List S187)
end Go.Proofs.YtkohjiajbdkcbaaDoor.All


/- What the row's list of package-level variables gives, in the world of the call and in every later one. -/
namespace Go.Proofs.YtkohjiajbdkcbaaDoor.All
open Go.RowKit Go.Proofs.YtkohjiajbdkcbaaDoorW.PrintWords Go.Proofs.YtkohjiajbdkcbaaDoorW.PrintLast Go.Proofs.YtkohjiajbdkcbaaDoorW.PrintMore
set_option linter.unusedVariables false
set_option linter.unusedSimpArgs false
open Go.Sort
def LtTab (w : World) : Prop := ∀ w', Below w.heap.size w w' → Lib.TabIs Tryd.prog w' "internal/strconv.uint64pow10" .u64 Lib.pow10Tab
theorem LtTab.here {w : World} (h : LtTab w) : Lib.TabIs Tryd.prog w "internal/strconv.uint64pow10" .u64 Lib.pow10Tab := h w (Below.refl _ _)
theorem LtTab.on {w w1 : World} (h : LtTab w) (hb : Below w.heap.size w w1) : LtTab w1 := fun w' h' => h w' (hb.trans (h'.mono hb.size))
def LtErr (w : World) : Prop := ∃ tp p tq q, ∀ w', Below w.heap.size w w' → w'.var? Tryd.prog "strconv.ErrSyntax" = some #[.iface tp p] ∧ w'.var? Tryd.prog "strconv.ErrRange" = some #[.iface tq q]
theorem LtErr.on {w w1 : World} (h : LtErr w) (hb : Below w.heap.size w w1) : LtErr w1 := by
  obtain ⟨tp, p, tq, q, h⟩ := h
  exact ⟨tp, p, tq, q, fun w' h' => h w' (hb.trans (h'.mono hb.size))⟩
theorem below_grow (w : World) (q : Nat) (os : Array Obj) : Below w.heap.size w (Go.Sort.grow (w.drewN q) os) :=
  ⟨rfl, rfl, rfl, by first | (simp [Go.Sort.grow]; done) | (simp [Go.Sort.grow]; omega), fun i hi => by
    show ((w.drewN q).heap ++ os)[i]? = _
    rw [Array.getElem?_append_left (by show i < w.heap.size; omega)]
    rfl⟩
end Go.Proofs.YtkohjiajbdkcbaaDoor.All


namespace Go.Proofs.YtkohjiajbdkcbaaDoor.All
open Go.RowKit Go.Proofs.YtkohjiajbdkcbaaDoorW.PrintWords Go.Proofs.YtkohjiajbdkcbaaDoorW.PrintLast Go.Proofs.YtkohjiajbdkcbaaDoorW.PrintMore
attribute [local go_sem] max2_int min2_int max_two min_two max_three min_three max_four min_four   -- for this text's walks alone
set_option linter.unusedVariables false
set_option linter.unusedSimpArgs false

/-! ### laws_szUint64S: function 35 -/
def laws_szUint64S.f (l0 : List Int) (a1 : Int) : Option (Int) := if (wrap64 (a1 - (l0.length : Int))) < 0 then (some (-1)) else (some (wrap64 (a1 - (l0.length : Int))))
set_option maxHeartbeats 8000000 in
set_option maxRecDepth 100000 in
theorem laws_szUint64S.calls (A0 : Option Addr) (c0 : Nat) (l0 : List Int) (a1 : Int) (r : Int) (w : World) (hr0 : Kd.C (Kd.int .u64) w A0 l0.length l0) (hc0 : l0.length ≤ c0) (h : laws_szUint64S.f l0 a1 = some r) :
 Calls Tryd.prog 35 #[.slice A0 l0.length c0, .int .i64 a1] w fun e w' => e = .returned (.int .i64 r) ∧ Drawn0 w w' := by
 have HR0 := Aside0.mk hr0
 have HC0 := Aside0.mk hc0
 clear hr0 hc0
 have H : (if (wrap64 (a1 - (l0.length : Int))) < 0 then (some (-1)) else (some (wrap64 (a1 - (l0.length : Int))))) = some r := h
 clear h
 by_cases c3 : (wrap64 (a1 - (l0.length : Int))) < 0
 · rw [if_pos c3] at H
   have c3b0 : decide ((wrap64 (a1 - (l0.length : Int))) < 0) = true := decide_eq_true c3
   clear c3
   obtain rfl := Option.some.inj H
   go_enter Tryd.func35, Tryd.ntmps35
   go_wp2
   go_ret
   exact ⟨by first | rfl | (simp; done) | (simp [*]; done), by repeat (first | exact Drawn0.refl _ | apply Drawn0.step)⟩
 · rw [if_neg c3] at H
   have c3b0 : decide ((wrap64 (a1 - (l0.length : Int))) < 0) = false := decide_eq_false c3
   clear c3
   obtain rfl := Option.some.inj H
   go_enter Tryd.func35, Tryd.ntmps35
   go_wp2
   go_ret
   exact ⟨by first | rfl | (simp; done) | (simp [*]; done), by repeat (first | exact Drawn0.refl _ | apply Drawn0.step)⟩

end Go.Proofs.YtkohjiajbdkcbaaDoor.All


namespace Go.Proofs.YtkohjiajbdkcbaaDoor.All
open Go.RowKit Go.Proofs.YtkohjiajbdkcbaaDoorW.PrintWords Go.Proofs.YtkohjiajbdkcbaaDoorW.PrintLast Go.Proofs.YtkohjiajbdkcbaaDoorW.PrintMore
attribute [local go_sem] max2_int min2_int max_two min_two max_three min_three max_four min_four   -- for this text's walks alone
set_option linter.unusedVariables false
set_option linter.unusedSimpArgs false

/-! ### laws_szOutcome: function 8 -/
def laws_szOutcome.f (a0_0 : Int) (a0_1 : Bool) (a0_2 : Int) (a0_3 : Int) (l0_4 : List Int) (a0_5 : Int) (a1 : Int) : Option (Int) := (laws_szUint64S.f l0_4 a1).bind fun t620 => (if t620 < 0 then (some (-1)) else (some t620))
set_option maxHeartbeats 8000000 in
set_option maxRecDepth 100000 in
theorem laws_szOutcome.calls (a0_0 : Int) (a0_1 : Bool) (a0_2 : Int) (a0_3 : Int) (A0_4 : Option Addr) (c0_4 : Nat) (l0_4 : List Int) (a0_5 : Int) (a1 : Int) (r : Int) (w : World) (hr0_4 : Kd.C (Kd.int .u64) w A0_4 l0_4.length l0_4) (hc0_4 : l0_4.length ≤ c0_4) (h : laws_szOutcome.f a0_0 a0_1 a0_2 a0_3 l0_4 a0_5 a1 = some r) :
 Calls Tryd.prog 8 #[.agg #[.int .i64 a0_0, .bool a0_1, .int .i64 a0_2, .int .u64 a0_3, .slice A0_4 l0_4.length c0_4, .int .i64 a0_5], .int .i64 a1] w fun e w' => e = .returned (.int .i64 r) ∧ Below w.heap.size w w' := by
 have hu27 := Tryd.underlying27
 have HR0_4 := Aside0.mk hr0_4
 have HC0_4 := Aside0.mk hc0_4
 clear hr0_4 hc0_4
 have HB := Aside0.mk (Below.refl w.heap.size w)
 have H : ((laws_szUint64S.f l0_4 a1).bind fun t620 => (if t620 < 0 then (some (-1)) else (some t620))) = some r := h
 clear h
 replace H := Option.bind_eq_some_iff.mp H
 obtain ⟨t620, A30, H⟩ := H
 replace H : (if t620 < 0 then (some (-1)) else (some t620)) = some r := H
 have A3 := Aside0.mk A30
 clear A30
 by_cases c4 : t620 < 0
 · rw [if_pos c4] at H
   have c4b0 : decide (t620 < 0) = true := decide_eq_true c4
   clear c4
   obtain rfl := Option.some.inj H
   go_enter Tryd.func8, Tryd.ntmps8
   go_wp2_with (first | ((with_reducible refine gate_dst (N := 2) rfl ?_); refine box_event ?hg (N := 2) ?hd (cs := #[.int .i64 a0_0, .bool a0_1, .int .i64 a0_2, .int .u64 a0_3, .slice A0_4 l0_4.length c0_4, .int .i64 a0_5]) (t := 27) ?hr ?_; (case hd => rfl); (case hg => rfl); (case hr => first | (go_simp; done) | (go_simp; rfl)); intro gb619 hg w5 hbox hb; have n0_ := Aside0.mk (below_step (by repeat (first | (with_reducible first | exact HB.out | apply below_alloc | apply pw_below_drewN | apply below_drew1) | exact HB.out)) hb); have n1_ := Aside0.mk (hbox); have n2_ := Aside0.mk ((by rw [hg]; exact (below_size (by repeat (first | (with_reducible first | exact HB.out | apply below_alloc | apply pw_below_drewN | apply below_drew1) | exact HB.out))) : w.heap.size ≤ gb619)); have n3_ := Aside0.mk ((by rw [hg]; exact (below_size (by repeat (first | (with_reducible first | exact HB.out | apply below_alloc | apply pw_below_drewN | apply below_drew1) | exact HB.out))) : w.heap.size ≤ gb619)); clear HB; have HB := n0_; have BK619 := n1_; have GW619 := n2_; have GE619 := n3_; clear n0_ n1_ n2_ n3_; clear hb hbox hg; have hcz6_0 : w5.cell? ⟨gb619, 0, none⟩ = some (.int .i64 a0_0) := (blk_cell BK619.out 0).trans rfl; have hcz6_1 : w5.cell? ⟨gb619, 1, none⟩ = some (.bool a0_1) := (blk_cell BK619.out 1).trans rfl; have hcz6_2 : w5.cell? ⟨gb619, 2, none⟩ = some (.int .i64 a0_2) := (blk_cell BK619.out 2).trans rfl; have hcz6_3 : w5.cell? ⟨gb619, 3, none⟩ = some (.int .u64 a0_3) := (blk_cell BK619.out 3).trans rfl; have hcz6_4 : w5.cell? ⟨gb619, 4, none⟩ = some (.slice A0_4 l0_4.length c0_4) := (blk_cell BK619.out 4).trans rfl; have hcz6_5 : w5.cell? ⟨gb619, 5, none⟩ = some (.int .i64 a0_5) := (blk_cell BK619.out 5).trans rfl; have hfz6_0 := blk_frozen BK619.out 0; have hfz6_1 := blk_frozen BK619.out 1; have hfz6_2 := blk_frozen BK619.out 2; have hfz6_3 := blk_frozen BK619.out 3; have hfz6_4 := blk_frozen BK619.out 4; have hfz6_5 := blk_frozen BK619.out 5) | ((with_reducible refine gate_callee (f := 35) rfl ?_); refine goesL_ (some 8) rfl rfl Tryd.func35 (by kernel_rfl) rfl #[.slice A0_4 l0_4.length c0_4, .int .i64 a1] rfl (by (try simp only [List.map_toArray, List.map_cons, List.map_nil]); first | done | rfl | (simp only [List.length_drop, List.length_take]; rfl)) ?_; (with_reducible refine (laws_szUint64S.calls _ _ l0_4 a1 t620 _ ?side1 ?side2 A3.out).mono ?_); (case side1 => repeat (first | exact (Kd.C_below HR0_4.out HB.out) | (with_reducible refine Kd.C_alloc ?_ _) | (with_reducible refine Kd.C_drewN ?_ _) | (with_reducible refine Kd.C_drew ?_))); (case side2 => exact HC0_4.out); rintro e w' ⟨rfl, ⟨nd, rfl⟩⟩; refine ⟨_, rfl, ?_⟩))
   go_ret
   exact ⟨by first | rfl | (simp [errW_none, errW_some] <;> rfl) | (simp [*, errW_none, errW_some] <;> rfl), by repeat (first | (with_reducible first | exact HB.out | apply below_alloc | apply pw_below_drewN | apply below_drew1 | refine below_set ?_ GE619.out) | exact HB.out)⟩
 · rw [if_neg c4] at H
   have c4b0 : decide (t620 < 0) = false := decide_eq_false c4
   clear c4
   obtain rfl := Option.some.inj H
   go_enter Tryd.func8, Tryd.ntmps8
   go_wp2_with (first | ((with_reducible refine gate_dst (N := 2) rfl ?_); refine box_event ?hg (N := 2) ?hd (cs := #[.int .i64 a0_0, .bool a0_1, .int .i64 a0_2, .int .u64 a0_3, .slice A0_4 l0_4.length c0_4, .int .i64 a0_5]) (t := 27) ?hr ?_; (case hd => rfl); (case hg => rfl); (case hr => first | (go_simp; done) | (go_simp; rfl)); intro gb619 hg w7 hbox hb; have n0_ := Aside0.mk (below_step (by repeat (first | (with_reducible first | exact HB.out | apply below_alloc | apply pw_below_drewN | apply below_drew1) | exact HB.out)) hb); have n1_ := Aside0.mk (hbox); have n2_ := Aside0.mk ((by rw [hg]; exact (below_size (by repeat (first | (with_reducible first | exact HB.out | apply below_alloc | apply pw_below_drewN | apply below_drew1) | exact HB.out))) : w.heap.size ≤ gb619)); have n3_ := Aside0.mk ((by rw [hg]; exact (below_size (by repeat (first | (with_reducible first | exact HB.out | apply below_alloc | apply pw_below_drewN | apply below_drew1) | exact HB.out))) : w.heap.size ≤ gb619)); clear HB; have HB := n0_; have BK619 := n1_; have GW619 := n2_; have GE619 := n3_; clear n0_ n1_ n2_ n3_; clear hb hbox hg; have hcz8_0 : w7.cell? ⟨gb619, 0, none⟩ = some (.int .i64 a0_0) := (blk_cell BK619.out 0).trans rfl; have hcz8_1 : w7.cell? ⟨gb619, 1, none⟩ = some (.bool a0_1) := (blk_cell BK619.out 1).trans rfl; have hcz8_2 : w7.cell? ⟨gb619, 2, none⟩ = some (.int .i64 a0_2) := (blk_cell BK619.out 2).trans rfl; have hcz8_3 : w7.cell? ⟨gb619, 3, none⟩ = some (.int .u64 a0_3) := (blk_cell BK619.out 3).trans rfl; have hcz8_4 : w7.cell? ⟨gb619, 4, none⟩ = some (.slice A0_4 l0_4.length c0_4) := (blk_cell BK619.out 4).trans rfl; have hcz8_5 : w7.cell? ⟨gb619, 5, none⟩ = some (.int .i64 a0_5) := (blk_cell BK619.out 5).trans rfl; have hfz8_0 := blk_frozen BK619.out 0; have hfz8_1 := blk_frozen BK619.out 1; have hfz8_2 := blk_frozen BK619.out 2; have hfz8_3 := blk_frozen BK619.out 3; have hfz8_4 := blk_frozen BK619.out 4; have hfz8_5 := blk_frozen BK619.out 5) | ((with_reducible refine gate_callee (f := 35) rfl ?_); refine goesL_ (some 8) rfl rfl Tryd.func35 (by kernel_rfl) rfl #[.slice A0_4 l0_4.length c0_4, .int .i64 a1] rfl (by (try simp only [List.map_toArray, List.map_cons, List.map_nil]); first | done | rfl | (simp only [List.length_drop, List.length_take]; rfl)) ?_; (with_reducible refine (laws_szUint64S.calls _ _ l0_4 a1 t620 _ ?side1 ?side2 A3.out).mono ?_); (case side1 => repeat (first | exact (Kd.C_below HR0_4.out HB.out) | (with_reducible refine Kd.C_alloc ?_ _) | (with_reducible refine Kd.C_drewN ?_ _) | (with_reducible refine Kd.C_drew ?_))); (case side2 => exact HC0_4.out); rintro e w' ⟨rfl, ⟨nd, rfl⟩⟩; refine ⟨_, rfl, ?_⟩))
   go_ret
   exact ⟨by first | rfl | (simp [errW_none, errW_some] <;> rfl) | (simp [*, errW_none, errW_some] <;> rfl), by repeat (first | (with_reducible first | exact HB.out | apply below_alloc | apply pw_below_drewN | apply below_drew1 | refine below_set ?_ GE619.out) | exact HB.out)⟩

end Go.Proofs.YtkohjiajbdkcbaaDoor.All


namespace Go.Proofs.YtkohjiajbdkcbaaDoor.All
open Go.RowKit Go.Proofs.YtkohjiajbdkcbaaDoorW.PrintWords Go.Proofs.YtkohjiajbdkcbaaDoorW.PrintLast Go.Proofs.YtkohjiajbdkcbaaDoorW.PrintMore
attribute [local go_sem] max2_int min2_int max_two min_two max_three min_three max_four min_four   -- for this text's walks alone
set_option linter.unusedVariables false
set_option linter.unusedSimpArgs false

/-! ### spec_ValidWidth: function 44 -/
def spec_ValidWidth.f (a0 : Int) : Option (Bool) := if a0 = 1 then (some true) else (if a0 = 8 then (some true) else (if a0 = 16 then (some true) else (if a0 = 32 then (some true) else (some (a0 == 64)))))
set_option maxHeartbeats 8000000 in
set_option maxRecDepth 100000 in
theorem spec_ValidWidth.calls (a0 : Int) (r : Bool) (w : World) (h : spec_ValidWidth.f a0 = some r) :
 Calls Tryd.prog 44 #[.int .i64 a0] w fun e w' => e = .returned (.bool r) ∧ Drawn0 w w' := by
 have H : (if a0 = 1 then (some true) else (if a0 = 8 then (some true) else (if a0 = 16 then (some true) else (if a0 = 32 then (some true) else (some (a0 == 64)))))) = some r := h
 clear h
 by_cases c2 : a0 = 1
 · rw [if_pos c2] at H
   have c2b0 : (a0 == 1) = true := beq_iff_eq.mpr c2
   have c2b1 : (a0 != 1) = false := bne_eq_false_iff_eq.mpr c2
   clear c2
   obtain rfl := Option.some.inj H
   go_enter Tryd.func44, Tryd.ntmps44
   go_wp2
   go_ret
   exact ⟨by first | rfl | (simp; done) | (simp [*]; done), by repeat (first | exact Drawn0.refl _ | apply Drawn0.step)⟩
 · rw [if_neg c2] at H
   have c2b0 : (a0 == 1) = false := beq_eq_false_iff_ne.mpr c2
   have c2b1 : (a0 != 1) = true := bne_iff_ne.mpr c2
   by_cases c3 : a0 = 8
   · rw [if_pos c3] at H
     have c3b0 : (a0 == 8) = true := beq_iff_eq.mpr c3
     have c3b1 : (a0 != 8) = false := bne_eq_false_iff_eq.mpr c3
     clear c3
     obtain rfl := Option.some.inj H
     go_enter Tryd.func44, Tryd.ntmps44
     go_wp2
     go_ret
     exact ⟨by first | rfl | (simp; done) | (simp [*]; done), by repeat (first | exact Drawn0.refl _ | apply Drawn0.step)⟩
   · rw [if_neg c3] at H
     have c3b0 : (a0 == 8) = false := beq_eq_false_iff_ne.mpr c3
     have c3b1 : (a0 != 8) = true := bne_iff_ne.mpr c3
     by_cases c4 : a0 = 16
     · rw [if_pos c4] at H
       have c4b0 : (a0 == 16) = true := beq_iff_eq.mpr c4
       have c4b1 : (a0 != 16) = false := bne_eq_false_iff_eq.mpr c4
       clear c4
       obtain rfl := Option.some.inj H
       go_enter Tryd.func44, Tryd.ntmps44
       go_wp2
       go_ret
       exact ⟨by first | rfl | (simp; done) | (simp [*]; done), by repeat (first | exact Drawn0.refl _ | apply Drawn0.step)⟩
     · rw [if_neg c4] at H
       have c4b0 : (a0 == 16) = false := beq_eq_false_iff_ne.mpr c4
       have c4b1 : (a0 != 16) = true := bne_iff_ne.mpr c4
       by_cases c5 : a0 = 32
       · rw [if_pos c5] at H
         have c5b0 : (a0 == 32) = true := beq_iff_eq.mpr c5
         have c5b1 : (a0 != 32) = false := bne_eq_false_iff_eq.mpr c5
         clear c5
         obtain rfl := Option.some.inj H
         go_enter Tryd.func44, Tryd.ntmps44
         go_wp2
         go_ret
         exact ⟨by first | rfl | (simp; done) | (simp [*]; done), by repeat (first | exact Drawn0.refl _ | apply Drawn0.step)⟩
       · rw [if_neg c5] at H
         have c5b0 : (a0 == 32) = false := beq_eq_false_iff_ne.mpr c5
         have c5b1 : (a0 != 32) = true := bne_iff_ne.mpr c5
         obtain rfl := Option.some.inj H
         go_enter Tryd.func44, Tryd.ntmps44
         go_wp2
         go_ret
         exact ⟨by first | rfl | (simp; done) | (simp [*]; done), by repeat (first | exact Drawn0.refl _ | apply Drawn0.step)⟩

end Go.Proofs.YtkohjiajbdkcbaaDoor.All


namespace Go.Proofs.YtkohjiajbdkcbaaDoor.All
open Go.RowKit Go.Proofs.YtkohjiajbdkcbaaDoorW.PrintWords Go.Proofs.YtkohjiajbdkcbaaDoorW.PrintLast Go.Proofs.YtkohjiajbdkcbaaDoorW.PrintMore
attribute [local go_sem] max2_int min2_int max_two min_two max_three min_three max_four min_four   -- for this text's walks alone
set_option linter.unusedVariables false
set_option linter.unusedSimpArgs false

/-! ### spec_l1Mask: function 78 -/
def spec_l1Mask.f (a0 : Int) : Option (Int) := if a0 = 64 then (some 18446744073709551615) else (if 0 ≤ (IntKind.u64.wrap (a0)) then (some (IntKind.u64.wrap ((shl .u64 1 (IntKind.u64.wrap (a0))) - 1))) else (none))
set_option maxHeartbeats 8000000 in
set_option maxRecDepth 100000 in
theorem spec_l1Mask.calls (a0 : Int) (r : Int) (w : World) (h : spec_l1Mask.f a0 = some r) :
 Calls Tryd.prog 78 #[.int .i64 a0] w fun e w' => e = .returned (.int .u64 r) ∧ Drawn0 w w' := by
 have H : (if a0 = 64 then (some 18446744073709551615) else (if 0 ≤ (IntKind.u64.wrap (a0)) then (some (IntKind.u64.wrap ((shl .u64 1 (IntKind.u64.wrap (a0))) - 1))) else (none))) = some r := h
 clear h
 by_cases c2 : a0 = 64
 · rw [if_pos c2] at H
   have c2b0 : (a0 == 64) = true := beq_iff_eq.mpr c2
   have c2b1 : (a0 != 64) = false := bne_eq_false_iff_eq.mpr c2
   clear c2
   obtain rfl := Option.some.inj H
   go_enter Tryd.func78, Tryd.ntmps78
   go_wp2
   go_ret
   exact ⟨by first | rfl | (simp; done) | (simp [*]; done), by repeat (first | exact Drawn0.refl _ | apply Drawn0.step)⟩
 · rw [if_neg c2] at H
   have c2b0 : (a0 == 64) = false := beq_eq_false_iff_ne.mpr c2
   have c2b1 : (a0 != 64) = true := bne_iff_ne.mpr c2
   obtain ⟨ji3, hji3⟩ : ∃ j_ : Int, (IntKind.u64.wrap (a0)) = j_ := ⟨_, rfl⟩
   replace H : (if 0 ≤ (ji3) then (some (IntKind.u64.wrap ((shl .u64 1 (ji3)) - 1))) else (none)) = some r := by first | (rw [hji3] at H; exact H) | (simp only [hji3] at H ⊢; exact H)
   by_cases c4 : 0 ≤ (ji3)
   · rw [if_pos c4] at H
     have c4b0 := eq_true c4
     have c4b1 : decide (0 ≤ (ji3)) = true := decide_eq_true c4
     clear c4
     obtain ⟨ji5, hji5⟩ : ∃ j_ : Int, (shl .u64 1 (ji3)) = j_ := ⟨_, rfl⟩
     replace H : (some (IntKind.u64.wrap ((ji5) - 1))) = some r := by first | (rw [hji5] at H; exact H) | (simp only [hji5] at H ⊢; exact H)
     have hji5_ : (IntKind.u64.wrap (1 * 2 ^ min (ji3).toNat 64)) = ji5 := hji5
     have hji5z : (ji3) ≤ 64 → (IntKind.u64.wrap (1 * 2 ^ (ji3).toNat)) = ji5 := shl_small hji5
     have hji5u : (IntKind.u64.wrap (2 ^ min (ji3).toNat 64)) = ji5 := by have h_ := hji5_; rw [Int.one_mul] at h_; exact h_
     have hji5v : (ji3) ≤ 64 → (IntKind.u64.wrap (2 ^ (ji3).toNat)) = ji5 := fun hle_ => by have h_ := hji5z hle_; rw [Int.one_mul] at h_; exact h_
     obtain rfl := Option.some.inj H
     go_enter Tryd.func78, Tryd.ntmps78
     go_wp2
     go_ret
     exact ⟨by first | rfl | (simp; done) | (simp only [← hji3, ← hji5] <;> (first | rfl | simp)) | (simp [*]; done), by repeat (first | exact Drawn0.refl _ | apply Drawn0.step)⟩
   · rw [if_neg c4] at H
     exact absurd H (by simp)

end Go.Proofs.YtkohjiajbdkcbaaDoor.All


namespace Go.Proofs.YtkohjiajbdkcbaaDoor.All
open Go.RowKit Go.Proofs.YtkohjiajbdkcbaaDoorW.PrintWords Go.Proofs.YtkohjiajbdkcbaaDoorW.PrintLast Go.Proofs.YtkohjiajbdkcbaaDoorW.PrintMore
attribute [local go_sem] max2_int min2_int max_two min_two max_three min_three max_four min_four   -- for this text's walks alone
set_option linter.unusedVariables false
set_option linter.unusedSimpArgs false

/-! ### spec_Cut: function 45 -/
def spec_Cut.f (a0 : Int) (a1 : Int) : Option (Int) := (spec_ValidWidth.f a0).bind fun t101 => (if t101 = true then ((spec_l1Mask.f a0).bind fun t102 => (some (Go.bits .and .u64 a1 t102))) else (some 0))
set_option maxHeartbeats 8000000 in
set_option maxRecDepth 100000 in
theorem spec_Cut.calls (a0 : Int) (a1 : Int) (r : Int) (w : World) (h : spec_Cut.f a0 a1 = some r) :
 Calls Tryd.prog 45 #[.int .i64 a0, .int .u64 a1] w fun e w' => e = .returned (.int .u64 r) ∧ Drawn0 w w' := by
 have H : ((spec_ValidWidth.f a0).bind fun t101 => (if t101 = true then ((spec_l1Mask.f a0).bind fun t102 => (some (Go.bits .and .u64 a1 t102))) else (some 0))) = some r := h
 clear h
 replace H := Option.bind_eq_some_iff.mp H
 obtain ⟨t101, A30, H⟩ := H
 replace H : (if t101 = true then ((spec_l1Mask.f a0).bind fun t102 => (some (Go.bits .and .u64 a1 t102))) else (some 0)) = some r := H
 have A3 := Aside0.mk A30
 clear A30
 by_cases c4 : t101 = true
 · subst c4
   have H1 : ((spec_l1Mask.f a0).bind fun t102 => (some (Go.bits .and .u64 a1 t102))) = some r := by rw [if_pos rfl] at H; exact H
   clear H
   have H := H1
   clear H1
   replace H := Option.bind_eq_some_iff.mp H
   obtain ⟨t102, A50, H⟩ := H
   replace H : (some (Go.bits .and .u64 a1 t102)) = some r := H
   have A5 := Aside0.mk A50
   clear A50
   obtain rfl := Option.some.inj H
   go_enter Tryd.func45, Tryd.ntmps45
   go_wp2_with (first | ((with_reducible refine gate_callee (f := 44) rfl ?_); refine goesL_ (some 6) rfl rfl Tryd.func44 (by kernel_rfl) rfl #[.int .i64 a0] rfl (by (try simp only [List.map_toArray, List.map_cons, List.map_nil]); first | done | rfl | (simp only [List.length_drop, List.length_take]; rfl)) ?_; (with_reducible refine (spec_ValidWidth.calls a0 true _ A3.out).mono ?_); rintro e w' ⟨rfl, ⟨nd, rfl⟩⟩; refine ⟨_, rfl, ?_⟩) | ((with_reducible refine gate_callee (f := 78) rfl ?_); refine goesL_ (some 10) rfl rfl Tryd.func78 (by kernel_rfl) rfl #[.int .i64 a0] rfl (by (try simp only [List.map_toArray, List.map_cons, List.map_nil]); first | done | rfl | (simp only [List.length_drop, List.length_take]; rfl)) ?_; (with_reducible refine (spec_l1Mask.calls a0 t102 _ A5.out).mono ?_); rintro e w' ⟨rfl, ⟨nd, rfl⟩⟩; refine ⟨_, rfl, ?_⟩))
   go_ret
   exact ⟨by first | rfl | (simp; done) | (simp [*]; done), by repeat (first | exact Drawn0.refl _ | apply Drawn0.step)⟩
 · replace c4 := Bool.eq_false_iff.mpr c4
   subst c4
   have H1 : (some 0) = some r := by rw [if_neg (show ¬ (false = true) by decide)] at H; exact H
   clear H
   have H := H1
   clear H1
   obtain rfl := Option.some.inj H
   go_enter Tryd.func45, Tryd.ntmps45
   go_wp2_with (first | ((with_reducible refine gate_callee (f := 44) rfl ?_); refine goesL_ (some 6) rfl rfl Tryd.func44 (by kernel_rfl) rfl #[.int .i64 a0] rfl (by (try simp only [List.map_toArray, List.map_cons, List.map_nil]); first | done | rfl | (simp only [List.length_drop, List.length_take]; rfl)) ?_; (with_reducible refine (spec_ValidWidth.calls a0 false _ A3.out).mono ?_); rintro e w' ⟨rfl, ⟨nd, rfl⟩⟩; refine ⟨_, rfl, ?_⟩))
   go_ret
   exact ⟨by first | rfl | (simp; done) | (simp [*]; done), by repeat (first | exact Drawn0.refl _ | apply Drawn0.step)⟩

end Go.Proofs.YtkohjiajbdkcbaaDoor.All


namespace Go.Proofs.YtkohjiajbdkcbaaDoor.All
open Go.RowKit Go.Proofs.YtkohjiajbdkcbaaDoorW.PrintWords Go.Proofs.YtkohjiajbdkcbaaDoorW.PrintLast Go.Proofs.YtkohjiajbdkcbaaDoorW.PrintMore
attribute [local go_sem] max2_int min2_int max_two min_two max_three min_three max_four min_four   -- for this text's walks alone
set_option linter.unusedVariables false
set_option linter.unusedSimpArgs false

/-! ### spec_l1Is: function 51 -/
def spec_l1Is.f (a0 : Int) (a1 : Int) : Option (Bool) := (spec_ValidWidth.f a0).bind fun t103 => (if t103 = true then ((spec_Cut.f a0 a1).bind fun t104 => (some (a1 == t104))) else (some false))
set_option maxHeartbeats 8000000 in
set_option maxRecDepth 100000 in
theorem spec_l1Is.calls (a0 : Int) (a1 : Int) (r : Bool) (w : World) (h : spec_l1Is.f a0 a1 = some r) :
 Calls Tryd.prog 51 #[.int .i64 a0, .int .u64 a1] w fun e w' => e = .returned (.bool r) ∧ Drawn0 w w' := by
 have H : ((spec_ValidWidth.f a0).bind fun t103 => (if t103 = true then ((spec_Cut.f a0 a1).bind fun t104 => (some (a1 == t104))) else (some false))) = some r := h
 clear h
 replace H := Option.bind_eq_some_iff.mp H
 obtain ⟨t103, A30, H⟩ := H
 replace H : (if t103 = true then ((spec_Cut.f a0 a1).bind fun t104 => (some (a1 == t104))) else (some false)) = some r := H
 have A3 := Aside0.mk A30
 clear A30
 by_cases c4 : t103 = true
 · subst c4
   have H1 : ((spec_Cut.f a0 a1).bind fun t104 => (some (a1 == t104))) = some r := by rw [if_pos rfl] at H; exact H
   clear H
   have H := H1
   clear H1
   replace H := Option.bind_eq_some_iff.mp H
   obtain ⟨t104, A50, H⟩ := H
   replace H : (some (a1 == t104)) = some r := H
   have A5 := Aside0.mk A50
   clear A50
   obtain rfl := Option.some.inj H
   go_enter Tryd.func51, Tryd.ntmps51
   go_wp2_with (first | ((with_reducible refine gate_callee (f := 44) rfl ?_); refine goesL_ (some 6) rfl rfl Tryd.func44 (by kernel_rfl) rfl #[.int .i64 a0] rfl (by (try simp only [List.map_toArray, List.map_cons, List.map_nil]); first | done | rfl | (simp only [List.length_drop, List.length_take]; rfl)) ?_; (with_reducible refine (spec_ValidWidth.calls a0 true _ A3.out).mono ?_); rintro e w' ⟨rfl, ⟨nd, rfl⟩⟩; refine ⟨_, rfl, ?_⟩) | (go_at_call 45; (with_reducible refine (spec_Cut.calls a0 a1 t104 _ A5.out).mono ?_); rintro e w' ⟨rfl, ⟨nd, rfl⟩⟩))
   go_ret
   exact ⟨by first | rfl | (simp; done) | (simp [*]; done), by repeat (first | exact Drawn0.refl _ | apply Drawn0.step)⟩
 · replace c4 := Bool.eq_false_iff.mpr c4
   subst c4
   have H1 : (some false) = some r := by rw [if_neg (show ¬ (false = true) by decide)] at H; exact H
   clear H
   have H := H1
   clear H1
   obtain rfl := Option.some.inj H
   go_enter Tryd.func51, Tryd.ntmps51
   go_wp2_with (first | ((with_reducible refine gate_callee (f := 44) rfl ?_); refine goesL_ (some 6) rfl rfl Tryd.func44 (by kernel_rfl) rfl #[.int .i64 a0] rfl (by (try simp only [List.map_toArray, List.map_cons, List.map_nil]); first | done | rfl | (simp only [List.length_drop, List.length_take]; rfl)) ?_; (with_reducible refine (spec_ValidWidth.calls a0 false _ A3.out).mono ?_); rintro e w' ⟨rfl, ⟨nd, rfl⟩⟩; refine ⟨_, rfl, ?_⟩))
   go_ret
   exact ⟨by first | rfl | (simp; done) | (simp [*]; done), by repeat (first | exact Drawn0.refl _ | apply Drawn0.step)⟩

end Go.Proofs.YtkohjiajbdkcbaaDoor.All


namespace Go.Proofs.YtkohjiajbdkcbaaDoor.All
open Go.RowKit Go.Proofs.YtkohjiajbdkcbaaDoorW.PrintWords Go.Proofs.YtkohjiajbdkcbaaDoorW.PrintLast Go.Proofs.YtkohjiajbdkcbaaDoorW.PrintMore
attribute [local go_sem] max2_int min2_int max_two min_two max_three min_three max_four min_four   -- for this text's walks alone
set_option linter.unusedVariables false
set_option linter.unusedSimpArgs false

/-! ### spec_l1Top: function 82 -/
def spec_l1Top.f (a0 : Int) (a1 : Int) : Option (Bool) := if 0 ≤ (IntKind.u64.wrap (wrap64 (a0 - 1))) then (some ((shr .u64 a1 (IntKind.u64.wrap (wrap64 (a0 - 1)))) == 1)) else (none)
set_option maxHeartbeats 8000000 in
set_option maxRecDepth 100000 in
theorem spec_l1Top.calls (a0 : Int) (a1 : Int) (r : Bool) (w : World) (h : spec_l1Top.f a0 a1 = some r) :
 Calls Tryd.prog 82 #[.int .i64 a0, .int .u64 a1] w fun e w' => e = .returned (.bool r) ∧ Drawn0 w w' := by
 have H : (if 0 ≤ (IntKind.u64.wrap (wrap64 (a0 - 1))) then (some ((shr .u64 a1 (IntKind.u64.wrap (wrap64 (a0 - 1)))) == 1)) else (none)) = some r := h
 clear h
 obtain ⟨ji3, hji3⟩ : ∃ j_ : Int, (IntKind.u64.wrap (wrap64 (a0 - 1))) = j_ := ⟨_, rfl⟩
 replace H : (if 0 ≤ (ji3) then (some ((shr .u64 a1 (ji3)) == 1)) else (none)) = some r := by first | (rw [hji3] at H; exact H) | (simp only [hji3] at H ⊢; exact H)
 by_cases c4 : 0 ≤ (ji3)
 · rw [if_pos c4] at H
   have c4b0 := eq_true c4
   have c4b1 : decide (0 ≤ (ji3)) = true := decide_eq_true c4
   clear c4
   obtain ⟨ji5, hji5⟩ : ∃ j_ : Int, (shr .u64 a1 (ji3)) = j_ := ⟨_, rfl⟩
   replace H : (some ((ji5) == 1)) = some r := by first | (rw [hji5] at H; exact H) | (simp only [hji5] at H ⊢; exact H)
   have hji5_ : (a1 / 2 ^ min (ji3).toNat 64) = ji5 := hji5
   have hji5z : (ji3) ≤ 64 → (a1 / 2 ^ (ji3).toNat) = ji5 := shr_small hji5
   obtain rfl := Option.some.inj H
   go_enter Tryd.func82, Tryd.ntmps82
   go_wp2
   go_ret
   exact ⟨by first | rfl | (simp; done) | (simp only [← hji3, ← hji5] <;> (first | rfl | simp)) | (simp [*]; done), by repeat (first | exact Drawn0.refl _ | apply Drawn0.step)⟩
 · rw [if_neg c4] at H
   exact absurd H (by simp)

end Go.Proofs.YtkohjiajbdkcbaaDoor.All


namespace Go.Proofs.YtkohjiajbdkcbaaDoor.All
open Go.RowKit Go.Proofs.YtkohjiajbdkcbaaDoorW.PrintWords Go.Proofs.YtkohjiajbdkcbaaDoorW.PrintLast Go.Proofs.YtkohjiajbdkcbaaDoorW.PrintMore
attribute [local go_sem] max2_int min2_int max_two min_two max_three min_three max_four min_four   -- for this text's walks alone
set_option linter.unusedVariables false
set_option linter.unusedSimpArgs false

/-! ### spec_Signed: function 52 -/
def spec_Signed.f (a0 : Int) (a1 : Int) : Option (Int) := (spec_l1Is.f a0 a1).bind fun t105 => (if t105 = true then ((spec_l1Top.f a0 a1).bind fun t106 => (if t106 = true then ((spec_l1Mask.f a0).bind fun t107 => (some (wrap64 (Go.bits .or .u64 a1 (Go.bits .xor .u64 18446744073709551615 t107))))) else (some (wrap64 (a1))))) else (some 0))
set_option maxHeartbeats 8000000 in
set_option maxRecDepth 100000 in
theorem spec_Signed.calls (a0 : Int) (a1 : Int) (r : Int) (w : World) (h : spec_Signed.f a0 a1 = some r) :
 Calls Tryd.prog 52 #[.int .i64 a0, .int .u64 a1] w fun e w' => e = .returned (.int .i64 r) ∧ Drawn0 w w' := by
 have H : ((spec_l1Is.f a0 a1).bind fun t105 => (if t105 = true then ((spec_l1Top.f a0 a1).bind fun t106 => (if t106 = true then ((spec_l1Mask.f a0).bind fun t107 => (some (wrap64 (Go.bits .or .u64 a1 (Go.bits .xor .u64 18446744073709551615 t107))))) else (some (wrap64 (a1))))) else (some 0))) = some r := h
 clear h
 replace H := Option.bind_eq_some_iff.mp H
 obtain ⟨t105, A30, H⟩ := H
 replace H : (if t105 = true then ((spec_l1Top.f a0 a1).bind fun t106 => (if t106 = true then ((spec_l1Mask.f a0).bind fun t107 => (some (wrap64 (Go.bits .or .u64 a1 (Go.bits .xor .u64 18446744073709551615 t107))))) else (some (wrap64 (a1))))) else (some 0)) = some r := H
 have A3 := Aside0.mk A30
 clear A30
 by_cases c4 : t105 = true
 · subst c4
   have H1 : ((spec_l1Top.f a0 a1).bind fun t106 => (if t106 = true then ((spec_l1Mask.f a0).bind fun t107 => (some (wrap64 (Go.bits .or .u64 a1 (Go.bits .xor .u64 18446744073709551615 t107))))) else (some (wrap64 (a1))))) = some r := by rw [if_pos rfl] at H; exact H
   clear H
   have H := H1
   clear H1
   replace H := Option.bind_eq_some_iff.mp H
   obtain ⟨t106, A50, H⟩ := H
   replace H : (if t106 = true then ((spec_l1Mask.f a0).bind fun t107 => (some (wrap64 (Go.bits .or .u64 a1 (Go.bits .xor .u64 18446744073709551615 t107))))) else (some (wrap64 (a1)))) = some r := H
   have A5 := Aside0.mk A50
   clear A50
   by_cases c6 : t106 = true
   · subst c6
     have H1 : ((spec_l1Mask.f a0).bind fun t107 => (some (wrap64 (Go.bits .or .u64 a1 (Go.bits .xor .u64 18446744073709551615 t107))))) = some r := by rw [if_pos rfl] at H; exact H
     clear H
     have H := H1
     clear H1
     replace H := Option.bind_eq_some_iff.mp H
     obtain ⟨t107, A70, H⟩ := H
     replace H : (some (wrap64 (Go.bits .or .u64 a1 (Go.bits .xor .u64 18446744073709551615 t107)))) = some r := H
     have A7 := Aside0.mk A70
     clear A70
     obtain rfl := Option.some.inj H
     go_enter Tryd.func52, Tryd.ntmps52
     go_wp2_with (first | ((with_reducible refine gate_callee (f := 51) rfl ?_); refine goesL_ (some 7) rfl rfl Tryd.func51 (by kernel_rfl) rfl #[.int .i64 a0, .int .u64 a1] rfl (by (try simp only [List.map_toArray, List.map_cons, List.map_nil]); first | done | rfl | (simp only [List.length_drop, List.length_take]; rfl)) ?_; (with_reducible refine (spec_l1Is.calls a0 a1 true _ A3.out).mono ?_); rintro e w' ⟨rfl, ⟨nd, rfl⟩⟩; refine ⟨_, rfl, ?_⟩) | ((with_reducible refine gate_callee (f := 82) rfl ?_); refine goesL_ (some 11) rfl rfl Tryd.func82 (by kernel_rfl) rfl #[.int .i64 a0, .int .u64 a1] rfl (by (try simp only [List.map_toArray, List.map_cons, List.map_nil]); first | done | rfl | (simp only [List.length_drop, List.length_take]; rfl)) ?_; (with_reducible refine (spec_l1Top.calls a0 a1 true _ A5.out).mono ?_); rintro e w' ⟨rfl, ⟨nd, rfl⟩⟩; refine ⟨_, rfl, ?_⟩) | ((with_reducible refine gate_callee (f := 78) rfl ?_); refine goesL_ (some 14) rfl rfl Tryd.func78 (by kernel_rfl) rfl #[.int .i64 a0] rfl (by (try simp only [List.map_toArray, List.map_cons, List.map_nil]); first | done | rfl | (simp only [List.length_drop, List.length_take]; rfl)) ?_; (with_reducible refine (spec_l1Mask.calls a0 t107 _ A7.out).mono ?_); rintro e w' ⟨rfl, ⟨nd, rfl⟩⟩; refine ⟨_, rfl, ?_⟩))
     go_ret
     exact ⟨by first | rfl | (simp; done) | (simp [*]; done), by repeat (first | exact Drawn0.refl _ | apply Drawn0.step)⟩
   · replace c6 := Bool.eq_false_iff.mpr c6
     subst c6
     have H1 : (some (wrap64 (a1))) = some r := by rw [if_neg (show ¬ (false = true) by decide)] at H; exact H
     clear H
     have H := H1
     clear H1
     obtain rfl := Option.some.inj H
     go_enter Tryd.func52, Tryd.ntmps52
     go_wp2_with (first | ((with_reducible refine gate_callee (f := 51) rfl ?_); refine goesL_ (some 7) rfl rfl Tryd.func51 (by kernel_rfl) rfl #[.int .i64 a0, .int .u64 a1] rfl (by (try simp only [List.map_toArray, List.map_cons, List.map_nil]); first | done | rfl | (simp only [List.length_drop, List.length_take]; rfl)) ?_; (with_reducible refine (spec_l1Is.calls a0 a1 true _ A3.out).mono ?_); rintro e w' ⟨rfl, ⟨nd, rfl⟩⟩; refine ⟨_, rfl, ?_⟩) | ((with_reducible refine gate_callee (f := 82) rfl ?_); refine goesL_ (some 11) rfl rfl Tryd.func82 (by kernel_rfl) rfl #[.int .i64 a0, .int .u64 a1] rfl (by (try simp only [List.map_toArray, List.map_cons, List.map_nil]); first | done | rfl | (simp only [List.length_drop, List.length_take]; rfl)) ?_; (with_reducible refine (spec_l1Top.calls a0 a1 false _ A5.out).mono ?_); rintro e w' ⟨rfl, ⟨nd, rfl⟩⟩; refine ⟨_, rfl, ?_⟩))
     go_ret
     exact ⟨by first | rfl | (simp; done) | (simp [*]; done), by repeat (first | exact Drawn0.refl _ | apply Drawn0.step)⟩
 · replace c4 := Bool.eq_false_iff.mpr c4
   subst c4
   have H1 : (some 0) = some r := by rw [if_neg (show ¬ (false = true) by decide)] at H; exact H
   clear H
   have H := H1
   clear H1
   obtain rfl := Option.some.inj H
   go_enter Tryd.func52, Tryd.ntmps52
   go_wp2_with (first | ((with_reducible refine gate_callee (f := 51) rfl ?_); refine goesL_ (some 7) rfl rfl Tryd.func51 (by kernel_rfl) rfl #[.int .i64 a0, .int .u64 a1] rfl (by (try simp only [List.map_toArray, List.map_cons, List.map_nil]); first | done | rfl | (simp only [List.length_drop, List.length_take]; rfl)) ?_; (with_reducible refine (spec_l1Is.calls a0 a1 false _ A3.out).mono ?_); rintro e w' ⟨rfl, ⟨nd, rfl⟩⟩; refine ⟨_, rfl, ?_⟩))
   go_ret
   exact ⟨by first | rfl | (simp; done) | (simp [*]; done), by repeat (first | exact Drawn0.refl _ | apply Drawn0.step)⟩

end Go.Proofs.YtkohjiajbdkcbaaDoor.All


namespace Go.Proofs.YtkohjiajbdkcbaaDoor.All
open Go.RowKit Go.Proofs.YtkohjiajbdkcbaaDoorW.PrintWords Go.Proofs.YtkohjiajbdkcbaaDoorW.PrintLast Go.Proofs.YtkohjiajbdkcbaaDoorW.PrintMore
attribute [local go_sem] max2_int min2_int max_two min_two max_three min_three max_four min_four   -- for this text's walks alone
set_option linter.unusedVariables false
set_option linter.unusedSimpArgs false

/-! ### spec_l1Decimal: function 53 -/
def spec_l1Decimal.f : Nat → Int → Option (ByteArray)
 | 0, _ => none
 | k + 1, a0 => if a0 < 10 then (some (strOfNums (([(IntKind.u64.wrap (48 + a0)) % 256] : List Int)))) else ((spec_l1Decimal.f k (IntKind.u64.wrap (Int.tdiv a0 10))).bind fun t111 => ((some (([(IntKind.u64.wrap (48 + (Int.tmod a0 10))) % 256] : List Int) : List Int)).bind fun y112 => (if t111.size + (strOfNums y112).size ≤ 9223372036854775807 then (some (t111 ++ (strOfNums y112))) else (none))))
def spec_l1Decimal.T3 : Bool × List (List Nat × List Nat) := (true, [([], []), ([0], [0]), ([1], [1]), ([], []), ([3], [3]), ([4], [4]), ([5], [5]), ([6], [6]), ([7], [7]), ([2, 8], [2, 8]), ([9, 2, 0, 1, 2, 3, 4, 5, 6, 7, 8, 9], [9])])
def spec_l1Decimal.B3 : List Nat := [0, 1, 3, 0, 8, 24, 56, 120, 248, 511, 1023]
theorem spec_l1Decimal.tab3 : rtab .any (opsOf Tryd.f53 3) = spec_l1Decimal.T3 := by kernel_rfl
theorem spec_l1Decimal.bits3 : waitsOk spec_l1Decimal.T3.2 spec_l1Decimal.B3 = true := by kernel_rfl
set_option maxHeartbeats 8000000 in
set_option maxRecDepth 100000 in
theorem spec_l1Decimal.calls (k : Nat) : ∀ (a0 : Int) (r : ByteArray) (w : World) (h : spec_l1Decimal.f k a0 = some r),
 Calls Tryd.prog 53 #[.int .u64 a0] w fun e w' => e = .returned (.string r) ∧ Below w.heap.size w w' := by
 induction k using Nat.strongRecOn with
 | _ k ih =>
 intro a0 r w h
 cases k with
 | zero => exact absurd h (by simp [spec_l1Decimal.f])
 | succ k =>
 simp only [spec_l1Decimal.f] at h
 have HB := Aside0.mk (Below.refl w.heap.size w)
 have H : (if a0 < 10 then (some (strOfNums (([(IntKind.u64.wrap (48 + a0)) % 256] : List Int)))) else ((spec_l1Decimal.f k (IntKind.u64.wrap (Int.tdiv a0 10))).bind fun t111 => ((some (([(IntKind.u64.wrap (48 + (Int.tmod a0 10))) % 256] : List Int) : List Int)).bind fun y112 => (if t111.size + (strOfNums y112).size ≤ 9223372036854775807 then (some (t111 ++ (strOfNums y112))) else (none))))) = some r := h
 clear h
 by_cases c2 : a0 < 10
 · rw [if_pos c2] at H
   have c2b0 : decide (a0 < 10) = true := decide_eq_true c2
   clear c2
   obtain ⟨y108, hy108⟩ : ∃ y_ : List Int, y_ = (([(IntKind.u64.wrap (48 + a0)) % 256] : List Int)) := ⟨_, rfl⟩
   replace H : (some (strOfNums y108)) = some r := by first | (rw [hy108]; with_reducible exact H) | (have H2_ := (Option.bind_some _ _).symm.trans H; rw [hy108]; with_reducible exact H2_) | (have H2_ := (Option.bind_some _ _).symm.trans H; with_reducible exact H2_) | with_reducible exact H | (rw [hy108]; exact H) | exact H
   have Ny108 := Aside0.mk hy108
   clear hy108
   obtain rfl := Option.some.inj H
   go_enter Tryd.func53, Tryd.ntmps53
   go_wp2_with (first | ((with_reducible refine gate_dst (N := 8) rfl ?_); refine Kd.R_lit (Kd.int .u8) _ 5 ?hg (N := 8) ?hd (xs := ([(IntKind.u64.wrap (48 + a0)) % 256] : List Int)) (inner := [.int .u8 ((IntKind.u64.wrap (48 + a0)) % 256)]) (ok := fun _ => True) (okp := fun _ => True) ?hr ?hp (fun _ hk => hk) trivial (Below.refl _ _) (Nat.le_refl _) (by simp) ?_; (case hd => rfl); (case hg => rfl); (case hr => first | (go_simp; done) | (go_simp; rfl)); (case hp => exact (Reps.one (show Kd.M (Kd.int .u8) _ _ _ ((IntKind.u64.wrap (48 + a0)) % 256) [.int .u8 ((IntKind.u64.wrap (48 + a0)) % 256)] from rfl) (Reps.none _ _))); intro v109 w3 ho4 hb hg_ hnew_; clear hg_ hnew_; (first | rw [← Ny108.out] at ho4 | (simp only [Int.reduceToNat] at ho4; rw [← Ny108.out] at ho4)); have n0_ := Aside0.mk (Kd.R_lower ho4 (below_size (by repeat (first | (with_reducible first | exact HB.out | apply below_alloc | apply pw_below_drewN | apply below_drew1) | exact HB.out)))); have n1_ := Aside0.mk (below_step (by repeat (first | (with_reducible first | exact HB.out | apply below_alloc | apply pw_below_drewN | apply below_drew1) | exact HB.out)) hb); clear HB; have HO110 := n0_; have HB := n1_; clear n0_ n1_; clear hb ho4; have hcv5 := own_string (P := Tryd.prog) Tryd.underlying41 Tryd.underlying5 Tryd.underlying9 (Kd.own_of_R HO110.out)))
   go_ret
   exact ⟨by first | rfl | (simp [errW_none, errW_some] <;> rfl) | (simp [*, errW_none, errW_some] <;> rfl), by repeat (first | (with_reducible first | exact HB.out | apply below_alloc | apply pw_below_drewN | apply below_drew1) | exact HB.out)⟩
 · rw [if_neg c2] at H
   have c2b0 : decide (a0 < 10) = false := decide_eq_false c2
   clear c2
   replace H := Option.bind_eq_some_iff.mp H
   obtain ⟨t111, A60, H⟩ := H
   replace H : ((some (([(IntKind.u64.wrap (48 + (Int.tmod a0 10))) % 256] : List Int) : List Int)).bind fun y112 => (if t111.size + (strOfNums y112).size ≤ 9223372036854775807 then (some (t111 ++ (strOfNums y112))) else (none))) = some r := H
   have A6 := Aside0.mk A60
   clear A60
   obtain ⟨y112, hy112⟩ : ∃ y_ : List Int, y_ = (([(IntKind.u64.wrap (48 + (Int.tmod a0 10))) % 256] : List Int)) := ⟨_, rfl⟩
   replace H : (if t111.size + (strOfNums y112).size ≤ 9223372036854775807 then (some (t111 ++ (strOfNums y112))) else (none)) = some r := by first | (rw [hy112]; with_reducible exact H) | (have H2_ := (Option.bind_some _ _).symm.trans H; rw [hy112]; with_reducible exact H2_) | (have H2_ := (Option.bind_some _ _).symm.trans H; with_reducible exact H2_) | with_reducible exact H | (rw [hy112]; exact H) | exact H
   have Ny112 := Aside0.mk hy112
   clear hy112
   by_cases c7 : t111.size + (strOfNums y112).size ≤ 9223372036854775807
   · rw [if_pos c7] at H
     have c7b0 := eq_true c7
     have c7b1 : decide (t111.size + (strOfNums y112).size ≤ 9223372036854775807) = true := decide_eq_true c7
     try have c7b2 : (9223372036854775807 < t111.size + (strOfNums y112).size) = False := eq_false (Nat.not_lt.2 c7)
     obtain rfl := Option.some.inj H
     go_enter Tryd.func53, Tryd.ntmps53
     try go_wp2
     have n0_ := Aside0.mk (below_drew1 HB.out)
     clear HB
     have HB := n0_
     clear n0_
     refine start_ (n := 11) (S := fun w' => True) (ds := []) #[false, false, false, false, false, false, false, false, false, false, false] (by kernel_rfl) rfl rfl trivial (fun hHeld => ?_); refine with_tabW spec_l1Decimal.tab3 spec_l1Decimal.bits3 (fun HT_ HW_ => ?_)
     generalize w.drew = w8 at HB hHeld ⊢
     refine pure_ (i := 0) (N := some 10) (v := ?_) (a' := ?_) #[true, false, false, false, false, false, false, false, false, false, false] rfl rfl (any_of HT_.out (by kernel_rfl)) (fun _ _ _ h => h) (Or.inl ⟨by rfl, ?_⟩) ?_ ?_
     rotate_left
     · intro w'
       go_simp
       with_reducible rfl
     rotate_left
     · simp only [Act.put, List.setIfInBounds_toArray, List.set_cons_zero, List.set_cons_succ, i64_w, i32_w]
       rfl
     refine pure_ (i := 1) (N := some 11) (v := ?_) (a' := ?_) #[true, true, false, false, false, false, false, false, false, false, false] rfl rfl (any_of HT_.out (by kernel_rfl)) (fun _ _ _ h => h) (Or.inl ⟨by rfl, ?_⟩) ?_ ?_
     rotate_left
     · intro w'
       go_simp
       with_reducible rfl
     rotate_left
     · simp only [Act.put, List.setIfInBounds_toArray, List.set_cons_zero, List.set_cons_succ, i64_w, i32_w]
       rfl
     refine pure_ (i := 3) (N := some 13) (v := ?_) (a' := ?_) #[true, true, false, true, false, false, false, false, false, false, false] rfl rfl (any_of HT_.out (by kernel_rfl)) (fun _ _ _ h => h) (Or.inl ⟨by rfl, ?_⟩) ?_ ?_
     rotate_left
     · intro w'
       go_simp
       with_reducible rfl
     rotate_left
     · simp only [Act.put, List.setIfInBounds_toArray, List.set_cons_zero, List.set_cons_succ, i64_w, i32_w]
       rfl
     refine pure_ (i := 4) (N := some 14) (v := ?_) (a' := ?_) #[true, true, false, true, true, false, false, false, false, false, false] rfl rfl (any_of HT_.out (by kernel_rfl)) (fun _ _ _ h => h) (Or.inl ⟨by rfl, ?_⟩) ?_ ?_
     rotate_left
     · intro w'
       go_simp
       with_reducible rfl
     rotate_left
     · simp only [Act.put, List.setIfInBounds_toArray, List.set_cons_zero, List.set_cons_succ, i64_w, i32_w]
       rfl
     refine pure_ (i := 5) (N := some 15) (v := ?_) (a' := ?_) #[true, true, false, true, true, true, false, false, false, false, false] rfl rfl (any_of HT_.out (by kernel_rfl)) (fun _ _ _ h => h) (Or.inl ⟨by rfl, ?_⟩) ?_ ?_
     rotate_left
     · intro w'
       go_simp
       with_reducible rfl
     rotate_left
     · simp only [Act.put, List.setIfInBounds_toArray, List.set_cons_zero, List.set_cons_succ, i64_w, i32_w]
       rfl
     refine pure_ (i := 6) (N := some 16) (v := ?_) (a' := ?_) #[true, true, false, true, true, true, true, false, false, false, false] rfl rfl (any_of HT_.out (by kernel_rfl)) (fun _ _ _ h => h) (Or.inl ⟨by rfl, ?_⟩) ?_ ?_
     rotate_left
     · intro w'
       go_simp
       with_reducible rfl
     rotate_left
     · simp only [Act.put, List.setIfInBounds_toArray, List.set_cons_zero, List.set_cons_succ, i64_w, i32_w]
       rfl
     refine join_ (σ := Value) 2 #[true, true, true, true, true, true, true, true, true, false, false] (fun s_ => [(12, .string t111), (17, s_), (18, .string (strOfNums y112))]) (fun s_ w' => (Kd.R (Kd.int .u8) 5 w' w.heap.size (fun _ => True) s_ y112) ∧ (Below w.heap.size w w')) ?_ ?_
     rotate_left
     · intro hCont
       refine two_ (i := 2) (j := 7) (Ni := some 12) (Nj := some 17) #[true, true, true, true, true, true, true, false, false, false, false] #[true, true, false, true, true, true, true, true, false, false, false] rfl rfl rfl rfl (two_of HT_.out (by kernel_rfl)) (by decide) (by decide) (fun K hK => ?_) (fun K hK => ?_)
       · skip
         refine goes_ Tryd.func53 (by kernel_rfl) rfl #[.int .u64 (IntKind.u64.wrap (Int.tdiv a0 10))] (by rfl) rfl rfl (by (try simp only [List.map_toArray, List.map_cons, List.map_nil]); first | done | rfl | (simp only [List.length_drop, List.length_take]; rfl)) ?_
         with_reducible refine (ih k (by omega) (IntKind.u64.wrap (Int.tdiv a0 10)) t111 _ A6.out).mono ?_
         rintro e w9 ⟨rfl, hb⟩
         refine ⟨_, rfl, ?_⟩
         have n0_ := Aside0.mk (below_step (by repeat (first | (with_reducible first | exact HB.out | apply below_alloc | apply pw_below_drewN | apply below_drew1) | exact HB.out)) hb)
         clear HB
         have HB := n0_
         clear n0_
         (try clear hb)
         (try clear hb2)
         (try clear hk)
         (try clear hi)
         refine hK.out _ _ trivial (fun hHeld => ?_)
         clear hK K
         refine norm_ (a' := ?_) ?_ ?_
         rotate_left
         · show Act.put _ (some 12) _ = _
           simp only [Act.put, List.setIfInBounds_toArray, List.set_cons_zero, List.set_cons_succ, i64_w, i32_w]
           rfl
         refine one_ (i := 7) (N := some 17) #[true, true, true, true, true, true, true, true, false, false, false] rfl rfl (one_of HT_.out (by kernel_rfl)) (by decide) (fun K hK => ?_)
         refine Kd.R_lit_step (Kd.int .u8) _ 5 ?hg (N := 17) ?hd (xs := ([(IntKind.u64.wrap (48 + (Int.tmod a0 10))) % 256] : List Int)) (inner := [.int .u8 ((IntKind.u64.wrap (48 + (Int.tmod a0 10))) % 256)]) (ok := fun _ => True) (okp := fun _ => True) ?hr ?hp (fun _ hk => hk) trivial (Below.refl _ _) (Nat.le_refl _) (by simp) ?_; (case hd => rfl); (case hg => rfl); (case hr => first | (go_simp; done) | (go_simp; rfl)); (case hp => exact (Reps.one (show Kd.M (Kd.int .u8) _ _ _ ((IntKind.u64.wrap (48 + (Int.tmod a0 10))) % 256) [.int .u8 ((IntKind.u64.wrap (48 + (Int.tmod a0 10))) % 256)] from rfl) (Reps.none _ _)))
         intro v113 w10 ho11 hb hg_ hnew_
         clear hg_ hnew_
         (first | rw [← Ny112.out] at ho11 | (simp only [Int.reduceToNat] at ho11; rw [← Ny112.out] at ho11))
         have n0_ := Aside0.mk (Kd.R_lower ho11 (below_size (by repeat (first | (with_reducible first | exact HB.out | apply below_alloc | apply pw_below_drewN | apply below_drew1) | exact HB.out))))
         have n1_ := Aside0.mk (below_step (by repeat (first | (with_reducible first | exact HB.out | apply below_alloc | apply pw_below_drewN | apply below_drew1) | exact HB.out)) hb)
         clear HB
         have HO114 := n0_
         have HB := n1_
         clear n0_ n1_
         clear hb ho11
         refine hK.out _ _ trivial (fun hHeld => ?_)
         clear hK K
         refine norm_ (a' := ?_) ?_ ?_
         rotate_left
         · show Act.put _ (some 17) _ = _
           simp only [Act.put, List.setIfInBounds_toArray, List.set_cons_zero, List.set_cons_succ, i64_w, i32_w]
           rfl
         refine one_ (i := 8) (N := some 18) #[true, true, true, true, true, true, true, true, true, false, false] rfl rfl (one_of HT_.out (by kernel_rfl)) (by decide) (fun K hK => ?_)
         have hcv12 := own_string (P := Tryd.prog) Tryd.underlying41 Tryd.underlying5 Tryd.underlying9 (Kd.own_of_R HO114.out)
         refine value_ (w1 := ?_) (v := ?_) (by rfl) rfl ?_ ?_
         rotate_left 2
         · go_simp
           constructor
           · rfl
           · rfl
         clear hcv12
         refine hK.out _ _ trivial (fun hHeld => ?_)
         clear hK K
         refine norm_ (a' := ?_) ?_ ?_
         rotate_left
         · show Act.put _ (some 18) _ = _
           simp only [Act.put, List.setIfInBounds_toArray, List.set_cons_zero, List.set_cons_succ, i64_w, i32_w]
           rfl
         exact norm_ (by simp only [putAll, Act.put, List.setIfInBounds_toArray, List.set_cons_zero, List.set_cons_succ]) (hCont (v113) _ ⟨(by (with_reducible repeat (first | apply Kd.R_alloc | apply Kd.R_drewN | apply Kd.R_drew)); exact HO114.out), (by repeat (first | (with_reducible first | exact HB.out | apply below_alloc | apply pw_below_drewN | apply below_drew1) | exact HB.out))⟩)
       · skip
         refine Kd.R_lit_step (Kd.int .u8) _ 5 ?hg (N := 17) ?hd (xs := ([(IntKind.u64.wrap (48 + (Int.tmod a0 10))) % 256] : List Int)) (inner := [.int .u8 ((IntKind.u64.wrap (48 + (Int.tmod a0 10))) % 256)]) (ok := fun _ => True) (okp := fun _ => True) ?hr ?hp (fun _ hk => hk) trivial (Below.refl _ _) (Nat.le_refl _) (by simp) ?_; (case hd => rfl); (case hg => rfl); (case hr => first | (go_simp; done) | (go_simp; rfl)); (case hp => exact (Reps.one (show Kd.M (Kd.int .u8) _ _ _ ((IntKind.u64.wrap (48 + (Int.tmod a0 10))) % 256) [.int .u8 ((IntKind.u64.wrap (48 + (Int.tmod a0 10))) % 256)] from rfl) (Reps.none _ _)))
         intro v113 w9 ho10 hb hg_ hnew_
         clear hg_ hnew_
         (first | rw [← Ny112.out] at ho10 | (simp only [Int.reduceToNat] at ho10; rw [← Ny112.out] at ho10))
         have n0_ := Aside0.mk (Kd.R_lower ho10 (below_size (by repeat (first | (with_reducible first | exact HB.out | apply below_alloc | apply pw_below_drewN | apply below_drew1) | exact HB.out))))
         have n1_ := Aside0.mk (below_step (by repeat (first | (with_reducible first | exact HB.out | apply below_alloc | apply pw_below_drewN | apply below_drew1) | exact HB.out)) hb)
         clear HB
         have HO114 := n0_
         have HB := n1_
         clear n0_ n1_
         clear hb ho10
         refine hK.out _ _ trivial (fun hHeld => ?_)
         clear hK K
         refine norm_ (a' := ?_) ?_ ?_
         rotate_left
         · show Act.put _ (some 17) _ = _
           simp only [Act.put, List.setIfInBounds_toArray, List.set_cons_zero, List.set_cons_succ, i64_w, i32_w]
           rfl
         refine two_ (i := 2) (j := 8) (Ni := some 12) (Nj := some 18) #[true, true, true, true, true, true, true, true, false, false, false] #[true, true, false, true, true, true, true, true, true, false, false] rfl rfl rfl rfl (two_of HT_.out (by kernel_rfl)) (by decide) (by decide) (fun K hK => ?_) (fun K hK => ?_)
         · skip
           refine goes_ Tryd.func53 (by kernel_rfl) rfl #[.int .u64 (IntKind.u64.wrap (Int.tdiv a0 10))] (by rfl) rfl rfl (by (try simp only [List.map_toArray, List.map_cons, List.map_nil]); first | done | rfl | (simp only [List.length_drop, List.length_take]; rfl)) ?_
           with_reducible refine (ih k (by omega) (IntKind.u64.wrap (Int.tdiv a0 10)) t111 _ A6.out).mono ?_
           rintro e w11 ⟨rfl, hb⟩
           refine ⟨_, rfl, ?_⟩
           have n0_ := Aside0.mk (Kd.R_below (by (with_reducible repeat (first | apply Kd.R_alloc | apply Kd.R_drewN | apply Kd.R_drew)); exact HO114.out) hb)
           have n1_ := Aside0.mk (below_step (by repeat (first | (with_reducible first | exact HB.out | apply below_alloc | apply pw_below_drewN | apply below_drew1) | exact HB.out)) hb)
           clear HO114
           clear HB
           have HO114 := n0_
           have HB := n1_
           clear n0_ n1_
           (try clear hb)
           (try clear hb2)
           (try clear hk)
           (try clear hi)
           refine hK.out _ _ trivial (fun hHeld => ?_)
           clear hK K
           refine norm_ (a' := ?_) ?_ ?_
           rotate_left
           · show Act.put _ (some 12) _ = _
             simp only [Act.put, List.setIfInBounds_toArray, List.set_cons_zero, List.set_cons_succ, i64_w, i32_w]
             rfl
           refine one_ (i := 8) (N := some 18) #[true, true, true, true, true, true, true, true, true, false, false] rfl rfl (one_of HT_.out (by kernel_rfl)) (by decide) (fun K hK => ?_)
           have hcv12 := own_string (P := Tryd.prog) Tryd.underlying41 Tryd.underlying5 Tryd.underlying9 (Kd.own_of_R HO114.out)
           refine value_ (w1 := ?_) (v := ?_) (by rfl) rfl ?_ ?_
           rotate_left 2
           · go_simp
             constructor
             · rfl
             · rfl
           clear hcv12
           refine hK.out _ _ trivial (fun hHeld => ?_)
           clear hK K
           refine norm_ (a' := ?_) ?_ ?_
           rotate_left
           · show Act.put _ (some 18) _ = _
             simp only [Act.put, List.setIfInBounds_toArray, List.set_cons_zero, List.set_cons_succ, i64_w, i32_w]
             rfl
           exact norm_ (by simp only [putAll, Act.put, List.setIfInBounds_toArray, List.set_cons_zero, List.set_cons_succ]) (hCont (v113) _ ⟨(by (with_reducible repeat (first | apply Kd.R_alloc | apply Kd.R_drewN | apply Kd.R_drew)); exact HO114.out), (by repeat (first | (with_reducible first | exact HB.out | apply below_alloc | apply pw_below_drewN | apply below_drew1) | exact HB.out))⟩)
         · skip
           have hcv11 := own_string (P := Tryd.prog) Tryd.underlying41 Tryd.underlying5 Tryd.underlying9 (Kd.own_of_R HO114.out)
           refine value_ (w1 := ?_) (v := ?_) (by rfl) rfl ?_ ?_
           rotate_left 2
           · go_simp
             constructor
             · rfl
             · rfl
           clear hcv11
           refine hK.out _ _ trivial (fun hHeld => ?_)
           clear hK K
           refine norm_ (a' := ?_) ?_ ?_
           rotate_left
           · show Act.put _ (some 18) _ = _
             simp only [Act.put, List.setIfInBounds_toArray, List.set_cons_zero, List.set_cons_succ, i64_w, i32_w]
             rfl
           refine one_ (i := 2) (N := some 12) #[true, true, true, true, true, true, true, true, true, false, false] rfl rfl (one_of HT_.out (by kernel_rfl)) (by decide) (fun K hK => ?_)
           refine goes_ Tryd.func53 (by kernel_rfl) rfl #[.int .u64 (IntKind.u64.wrap (Int.tdiv a0 10))] (by rfl) rfl rfl (by (try simp only [List.map_toArray, List.map_cons, List.map_nil]); first | done | rfl | (simp only [List.length_drop, List.length_take]; rfl)) ?_
           with_reducible refine (ih k (by omega) (IntKind.u64.wrap (Int.tdiv a0 10)) t111 _ A6.out).mono ?_
           rintro e w12 ⟨rfl, hb⟩
           refine ⟨_, rfl, ?_⟩
           have n0_ := Aside0.mk (Kd.R_below (by (with_reducible repeat (first | apply Kd.R_alloc | apply Kd.R_drewN | apply Kd.R_drew)); exact HO114.out) hb)
           have n1_ := Aside0.mk (below_step (by repeat (first | (with_reducible first | exact HB.out | apply below_alloc | apply pw_below_drewN | apply below_drew1) | exact HB.out)) hb)
           clear HO114
           clear HB
           have HO114 := n0_
           have HB := n1_
           clear n0_ n1_
           (try clear hb)
           (try clear hb2)
           (try clear hk)
           (try clear hi)
           refine hK.out _ _ trivial (fun hHeld => ?_)
           clear hK K
           refine norm_ (a' := ?_) ?_ ?_
           rotate_left
           · show Act.put _ (some 12) _ = _
             simp only [Act.put, List.setIfInBounds_toArray, List.set_cons_zero, List.set_cons_succ, i64_w, i32_w]
             rfl
           exact norm_ (by simp only [putAll, Act.put, List.setIfInBounds_toArray, List.set_cons_zero, List.set_cons_succ]) (hCont (v113) _ ⟨(by (with_reducible repeat (first | apply Kd.R_alloc | apply Kd.R_drewN | apply Kd.R_drew)); exact HO114.out), (by repeat (first | (with_reducible first | exact HB.out | apply below_alloc | apply pw_below_drewN | apply below_drew1) | exact HB.out))⟩)
     rintro v113 w13 ⟨h0_, h1_⟩
     have n0_ : Aside0 (Kd.R (Kd.int .u8) 5 w13 w.heap.size (fun _ => True) v113 y112) := ⟨h0_⟩
     have n1_ : Aside0 (Below w.heap.size w w13) := ⟨h1_⟩
     clear HB
     clear h0_ h1_
     have HO114 := n0_
     have HB := n1_
     clear n0_ n1_
     have hHeld := trivial
     refine norm_ (a' := ?_) ?_ ?_
     rotate_left
     · simp only [putAll, Act.put, List.setIfInBounds_toArray, List.set_cons_zero, List.set_cons_succ]
       rfl
     refine pure_ (i := 9) (N := some 19) (v := ?_) (a' := ?_) #[true, true, true, true, true, true, true, true, true, true, false] rfl rfl (any_of HT_.out (by kernel_rfl)) (fun _ _ _ h => h) (Or.inl ⟨by rfl, ?_⟩) ?_ ?_
     rotate_left
     · intro w'
       go_simp
       with_reducible rfl
     rotate_left
     · simp only [Act.put, List.setIfInBounds_toArray, List.set_cons_zero, List.set_cons_succ, i64_w, i32_w]
       rfl
     refine pure_ (i := 10) (N := some 2) (v := ?_) (a' := ?_) #[true, true, true, true, true, true, true, true, true, true, true] rfl rfl (any_of HT_.out (by kernel_rfl)) (fun _ _ _ h => h) (Or.inl ⟨by rfl, ?_⟩) ?_ ?_
     rotate_left
     · intro w'
       go_simp
       with_reducible rfl
     rotate_left
     · simp only [Act.put, List.setIfInBounds_toArray, List.set_cons_zero, List.set_cons_succ, i64_w, i32_w]
       rfl
     refine done_ (done_of HT_.out (by kernel_rfl)) ?_
     try go_wp2
     go_ret
     exact ⟨by first | rfl | (simp [errW_none, errW_some] <;> rfl) | (simp [*, errW_none, errW_some] <;> rfl), by repeat (first | (with_reducible first | exact HB.out | apply below_alloc | apply pw_below_drewN | apply below_drew1) | exact HB.out)⟩
   · rw [if_neg c7] at H
     exact absurd H (by simp)

end Go.Proofs.YtkohjiajbdkcbaaDoor.All


namespace Go.Proofs.YtkohjiajbdkcbaaDoor.All
open Go.RowKit Go.Proofs.YtkohjiajbdkcbaaDoorW.PrintWords Go.Proofs.YtkohjiajbdkcbaaDoorW.PrintLast Go.Proofs.YtkohjiajbdkcbaaDoorW.PrintMore
attribute [local go_sem] max2_int min2_int max_two min_two max_three min_three max_four min_four   -- for this text's walks alone
set_option linter.unusedVariables false
set_option linter.unusedSimpArgs false

/-! ### spec_l1Size: function 54 -/
def spec_l1Size.f (a0 : Int) : Option (Int) := if a0 < 0 then (some (IntKind.u64.wrap ((IntKind.u64.wrap (wrap64 (-(wrap64 (a0 + 1))))) + 1))) else (some (IntKind.u64.wrap (a0)))
set_option maxHeartbeats 8000000 in
set_option maxRecDepth 100000 in
theorem spec_l1Size.calls (a0 : Int) (r : Int) (w : World) (h : spec_l1Size.f a0 = some r) :
 Calls Tryd.prog 54 #[.int .i64 a0] w fun e w' => e = .returned (.int .u64 r) ∧ Drawn0 w w' := by
 have H : (if a0 < 0 then (some (IntKind.u64.wrap ((IntKind.u64.wrap (wrap64 (-(wrap64 (a0 + 1))))) + 1))) else (some (IntKind.u64.wrap (a0)))) = some r := h
 clear h
 by_cases c2 : a0 < 0
 · rw [if_pos c2] at H
   have c2b0 : decide (a0 < 0) = true := decide_eq_true c2
   clear c2
   obtain rfl := Option.some.inj H
   go_enter Tryd.func54, Tryd.ntmps54
   go_wp2
   go_ret
   exact ⟨by first | rfl | (simp; done) | (simp [*]; done), by repeat (first | exact Drawn0.refl _ | apply Drawn0.step)⟩
 · rw [if_neg c2] at H
   have c2b0 : decide (a0 < 0) = false := decide_eq_false c2
   clear c2
   obtain rfl := Option.some.inj H
   go_enter Tryd.func54, Tryd.ntmps54
   go_wp2
   go_ret
   exact ⟨by first | rfl | (simp; done) | (simp [*]; done), by repeat (first | exact Drawn0.refl _ | apply Drawn0.step)⟩

end Go.Proofs.YtkohjiajbdkcbaaDoor.All


namespace Go.Proofs.YtkohjiajbdkcbaaDoor.All
open Go.RowKit Go.Proofs.YtkohjiajbdkcbaaDoorW.PrintWords Go.Proofs.YtkohjiajbdkcbaaDoorW.PrintLast Go.Proofs.YtkohjiajbdkcbaaDoorW.PrintMore
attribute [local go_sem] max2_int min2_int max_two min_two max_three min_three max_four min_four   -- for this text's walks alone
set_option linter.unusedVariables false
set_option linter.unusedSimpArgs false

/-! ### spec_FormatWord: function 23 -/
def spec_FormatWord.j0 : Nat → Int → Int → Bool → Option (ByteArray)
 | 0, _, _, _ => none
 | k + 1, x1, x5, x18 => if x18 = true then ((spec_l1Size.f x5).bind fun t117 => ((spec_l1Decimal.f k t117).bind fun t118 => (if 1 + t118.size ≤ 9223372036854775807 then (some ((⟨#[45]⟩ : ByteArray) ++ t118)) else (none)))) else ((spec_l1Decimal.f k x1).bind fun t119 => (some t119))
def spec_FormatWord.f (k : Nat) (a0 : Int) (a1 : Int) : Option (ByteArray) := (spec_l1Is.f a0 a1).bind fun t115 => (if t115 = true then ((spec_Signed.f a0 a1).bind fun t116 => (if a0 > 1 then (spec_FormatWord.j0 k a1 t116 (decide (t116 < 0))) else (spec_FormatWord.j0 k a1 t116 false))) else (some (⟨#[]⟩ : ByteArray)))
set_option maxHeartbeats 8000000 in
set_option maxRecDepth 100000 in
theorem spec_FormatWord.calls (k : Nat) (a0 : Int) (a1 : Int) (r : ByteArray) (w : World) (h : spec_FormatWord.f k a0 a1 = some r) :
 Calls Tryd.prog 23 #[.int .i64 a0, .int .u64 a1] w fun e w' => e = .returned (.string r) ∧ Below w.heap.size w w' := by
 have HB := Aside0.mk (Below.refl w.heap.size w)
 have H : ((spec_l1Is.f a0 a1).bind fun t115 => (if t115 = true then ((spec_Signed.f a0 a1).bind fun t116 => (if a0 > 1 then (spec_FormatWord.j0 k a1 t116 (decide (t116 < 0))) else (spec_FormatWord.j0 k a1 t116 false))) else (some (⟨#[]⟩ : ByteArray)))) = some r := h
 clear h
 replace H := Option.bind_eq_some_iff.mp H
 obtain ⟨t115, A30, H⟩ := H
 replace H : (if t115 = true then ((spec_Signed.f a0 a1).bind fun t116 => (if a0 > 1 then (spec_FormatWord.j0 k a1 t116 (decide (t116 < 0))) else (spec_FormatWord.j0 k a1 t116 false))) else (some (⟨#[]⟩ : ByteArray))) = some r := H
 have A3 := Aside0.mk A30
 clear A30
 by_cases c4 : t115 = true
 · subst c4
   have H1 : ((spec_Signed.f a0 a1).bind fun t116 => (if a0 > 1 then (spec_FormatWord.j0 k a1 t116 (decide (t116 < 0))) else (spec_FormatWord.j0 k a1 t116 false))) = some r := by rw [if_pos rfl] at H; exact H
   clear H
   have H := H1
   clear H1
   replace H := Option.bind_eq_some_iff.mp H
   obtain ⟨t116, A50, H⟩ := H
   replace H : (if a0 > 1 then (spec_FormatWord.j0 k a1 t116 (decide (t116 < 0))) else (spec_FormatWord.j0 k a1 t116 false)) = some r := H
   have A5 := Aside0.mk A50
   clear A50
   have HC6 := Aside0.mk H
   clear H
   go_enter Tryd.func23, Tryd.ntmps23
   go_upto_region 4 with (first | ((with_reducible refine gate_callee (f := 51) rfl ?_); refine goesL_ (some 8) rfl rfl Tryd.func51 (by kernel_rfl) rfl #[.int .i64 a0, .int .u64 a1] rfl (by (try simp only [List.map_toArray, List.map_cons, List.map_nil]); first | done | rfl | (simp only [List.length_drop, List.length_take]; rfl)) ?_; (with_reducible refine (spec_l1Is.calls a0 a1 true _ A3.out).mono ?_); rintro e w' ⟨rfl, ⟨nd, rfl⟩⟩; refine ⟨_, rfl, ?_⟩) | ((with_reducible refine gate_callee (f := 52) rfl ?_); refine goesL_ (some 12) rfl rfl Tryd.func52 (by kernel_rfl) rfl #[.int .i64 a0, .int .u64 a1] rfl (by (try simp only [List.map_toArray, List.map_cons, List.map_nil]); first | done | rfl | (simp only [List.length_drop, List.length_take]; rfl)) ?_; (with_reducible refine (spec_Signed.calls a0 a1 t116 _ A5.out).mono ?_); rintro e w' ⟨rfl, ⟨nd, rfl⟩⟩; refine ⟨_, rfl, ?_⟩))
   (try simp only [Act.put, List.setIfInBounds_toArray, List.set_cons_zero, List.set_cons_succ])
   go_cut [18] (fun v18 wc => ∃ (kq : Nat) (x18_5 : Bool), v18 = .bool x18_5 ∧ Aside0 (spec_FormatWord.j0 kq a1 t116 x18_5 = some r) ∧ Aside0 (kq ≤ k) ∧ Aside0 (Below w.heap.size w wc))
   case first =>
    have H := HC6.out
    clear HC6
    by_cases c7 : a0 > 1
    · rw [if_pos c7] at H
      have c7b0 : decide (1 < a0) = true := decide_eq_true c7
      clear c7
      (first | rw [c7b0] | (simp only [i64_w, i32_w]; rw [c7b0]) | skip)
      have H' := Aside0.mk H
      clear H
      go_wp2
      go_meet
      case rel => exact ⟨_, (decide (t116 < 0)), (by first | rfl | (simp; done) | (simp [*]; done)), H', ⟨by first | omega | exact Nat.le_refl _⟩, ⟨by repeat (first | (with_reducible first | exact HB.out | apply below_alloc | apply pw_below_drewN | apply below_drew1) | exact HB.out)⟩⟩
    · rw [if_neg c7] at H
      have c7b0 : decide (1 < a0) = false := decide_eq_false c7
      clear c7
      (first | rw [c7b0] | (simp only [i64_w, i32_w]; rw [c7b0]) | skip)
      have H' := Aside0.mk H
      clear H
      go_wp2
      go_meet
      case rel => exact ⟨_, (false), (by first | rfl | (simp; done) | (simp [*]; done)), H', ⟨by first | omega | exact Nat.le_refl _⟩, ⟨by repeat (first | (with_reducible first | exact HB.out | apply below_alloc | apply pw_below_drewN | apply below_drew1) | exact HB.out)⟩⟩
   case rest =>
    clear HC6
    try clear c2
    try clear p2
    try clear c4
    try clear c5
    try clear c7
    try clear c7b0
    obtain ⟨kq, x18_5, rfl, HA, HJ5, HB⟩ := hcut
    cases kq with
    | zero => exact absurd HA.out (by simp [spec_FormatWord.j0])
    | succ kj5 =>
     have H := HA.out
     clear HA
     simp only [spec_FormatWord.j0] at H
     by_cases c8 : x18_5 = true
     · subst c8
       have H1 : ((spec_l1Size.f t116).bind fun t117 => ((spec_l1Decimal.f kj5 t117).bind fun t118 => (if 1 + t118.size ≤ 9223372036854775807 then (some ((⟨#[45]⟩ : ByteArray) ++ t118)) else (none)))) = some r := by rw [if_pos rfl] at H; exact H
       clear H
       have H := H1
       clear H1
       replace H := Option.bind_eq_some_iff.mp H
       obtain ⟨t117, A90, H⟩ := H
       replace H : ((spec_l1Decimal.f kj5 t117).bind fun t118 => (if 1 + t118.size ≤ 9223372036854775807 then (some ((⟨#[45]⟩ : ByteArray) ++ t118)) else (none))) = some r := H
       have A9 := Aside0.mk A90
       clear A90
       replace H := Option.bind_eq_some_iff.mp H
       obtain ⟨t118, A100, H⟩ := H
       replace H : (if 1 + t118.size ≤ 9223372036854775807 then (some ((⟨#[45]⟩ : ByteArray) ++ t118)) else (none)) = some r := H
       have A10 := Aside0.mk A100
       clear A100
       by_cases c11 : 1 + t118.size ≤ 9223372036854775807
       · rw [if_pos c11] at H
         have c11b0 := eq_true c11
         have c11b1 : decide (1 + t118.size ≤ 9223372036854775807) = true := decide_eq_true c11
         try have c11b2 : (9223372036854775807 < 1 + t118.size) = False := eq_false (Nat.not_lt.2 c11)
         obtain rfl := Option.some.inj H
         go_wp2_with (first | ((with_reducible refine gate_callee (f := 54) rfl ?_); refine goesL_ (some 20) rfl rfl Tryd.func54 (by kernel_rfl) rfl #[.int .i64 t116] rfl (by (try simp only [List.map_toArray, List.map_cons, List.map_nil]); first | done | rfl | (simp only [List.length_drop, List.length_take]; rfl)) ?_; (with_reducible refine (spec_l1Size.calls t116 t117 _ A9.out).mono ?_); rintro e w' ⟨rfl, ⟨nd, rfl⟩⟩; refine ⟨_, rfl, ?_⟩) | ((with_reducible refine gate_callee (f := 53) rfl ?_); refine goesL_ (some 21) rfl rfl Tryd.func53 (by kernel_rfl) rfl #[.int .u64 t117] rfl (by (try simp only [List.map_toArray, List.map_cons, List.map_nil]); first | done | rfl | (simp only [List.length_drop, List.length_take]; rfl)) ?_; (with_reducible refine (spec_l1Decimal.calls kj5 t117 t118 _ A10.out).mono ?_); rintro e w12 ⟨rfl, hb⟩; refine ⟨_, rfl, ?_⟩; have n0_ := Aside0.mk (below_step (by repeat (first | (with_reducible first | exact HB.out | apply below_alloc | apply pw_below_drewN | apply below_drew1) | exact HB.out)) hb); clear HB; have HB := n0_; clear n0_; (try clear hb); (try clear hb2); (try clear hk); (try clear hi)))
         go_ret
         exact ⟨by first | rfl | (simp [errW_none, errW_some] <;> rfl) | (simp [*, errW_none, errW_some] <;> rfl), by repeat (first | (with_reducible first | exact HB.out | apply below_alloc | apply pw_below_drewN | apply below_drew1) | exact HB.out)⟩
       · rw [if_neg c11] at H
         exact absurd H (by simp)
     · replace c8 := Bool.eq_false_iff.mpr c8
       subst c8
       have H1 : ((spec_l1Decimal.f kj5 a1).bind fun t119 => (some t119)) = some r := by rw [if_neg (show ¬ (false = true) by decide)] at H; exact H
       clear H
       have H := H1
       clear H1
       replace H := Option.bind_eq_some_iff.mp H
       obtain ⟨t119, A130, H⟩ := H
       replace H : (some t119) = some r := H
       have A13 := Aside0.mk A130
       clear A130
       obtain rfl := Option.some.inj H
       go_wp2_with (first | ((with_reducible refine gate_callee (f := 53) rfl ?_); refine goesL_ (some 24) rfl rfl Tryd.func53 (by kernel_rfl) rfl #[.int .u64 a1] rfl (by (try simp only [List.map_toArray, List.map_cons, List.map_nil]); first | done | rfl | (simp only [List.length_drop, List.length_take]; rfl)) ?_; (with_reducible refine (spec_l1Decimal.calls kj5 a1 t119 _ A13.out).mono ?_); rintro e w14 ⟨rfl, hb⟩; refine ⟨_, rfl, ?_⟩; have n0_ := Aside0.mk (below_step (by repeat (first | (with_reducible first | exact HB.out | apply below_alloc | apply pw_below_drewN | apply below_drew1) | exact HB.out)) hb); clear HB; have HB := n0_; clear n0_; (try clear hb); (try clear hb2); (try clear hk); (try clear hi)))
       go_ret
       exact ⟨by first | rfl | (simp [errW_none, errW_some] <;> rfl) | (simp [*, errW_none, errW_some] <;> rfl), by repeat (first | (with_reducible first | exact HB.out | apply below_alloc | apply pw_below_drewN | apply below_drew1) | exact HB.out)⟩
 · replace c4 := Bool.eq_false_iff.mpr c4
   subst c4
   have H1 : (some (⟨#[]⟩ : ByteArray)) = some r := by rw [if_neg (show ¬ (false = true) by decide)] at H; exact H
   clear H
   have H := H1
   clear H1
   obtain rfl := Option.some.inj H
   go_enter Tryd.func23, Tryd.ntmps23
   go_wp2_with (first | ((with_reducible refine gate_callee (f := 51) rfl ?_); refine goesL_ (some 8) rfl rfl Tryd.func51 (by kernel_rfl) rfl #[.int .i64 a0, .int .u64 a1] rfl (by (try simp only [List.map_toArray, List.map_cons, List.map_nil]); first | done | rfl | (simp only [List.length_drop, List.length_take]; rfl)) ?_; (with_reducible refine (spec_l1Is.calls a0 a1 false _ A3.out).mono ?_); rintro e w' ⟨rfl, ⟨nd, rfl⟩⟩; refine ⟨_, rfl, ?_⟩))
   go_ret
   exact ⟨by first | rfl | (simp [errW_none, errW_some] <;> rfl) | (simp [*, errW_none, errW_some] <;> rfl), by repeat (first | (with_reducible first | exact HB.out | apply below_alloc | apply pw_below_drewN | apply below_drew1) | exact HB.out)⟩

end Go.Proofs.YtkohjiajbdkcbaaDoor.All


namespace Go.Proofs.YtkohjiajbdkcbaaDoor.All
open Go.RowKit Go.Proofs.YtkohjiajbdkcbaaDoorW.PrintWords Go.Proofs.YtkohjiajbdkcbaaDoorW.PrintLast Go.Proofs.YtkohjiajbdkcbaaDoorW.PrintMore
attribute [local go_sem] max2_int min2_int max_two min_two max_three min_three max_four min_four   -- for this text's walks alone
set_option linter.unusedVariables false
set_option linter.unusedSimpArgs false

/-! ### spec_FormatOutcome: function 9 -/
mutual
def spec_FormatOutcome.l0 : Nat → List Int → Int → Int → Bool → Int → Int → List Int → Int → Option (ByteArray)
 | 0, _, _, _, _, _, _, _, _ => none
 | k + 1, x3, x4, x622000, x622001, x622002, x622003, x622004, x622005 => if x4 < (x622004.length : Int) then (if 0 ≤ x4 then ((spec_FormatWord.f k 64 (rd x622004 x4)).bind fun t626 => (if 6 + t626.size ≤ 9223372036854775807 then (if ((⟨#[112, 114, 105, 110, 116, 32]⟩ : ByteArray) ++ t626).size + 1 ≤ 9223372036854775807 then (if x3.length + (((⟨#[112, 114, 105, 110, 116, 32]⟩ : ByteArray) ++ t626) ++ (⟨#[10]⟩ : ByteArray)).size < 140737488355328 then (spec_FormatOutcome.l0 k (x3 ++ bytesOf (((⟨#[112, 114, 105, 110, 116, 32]⟩ : ByteArray) ++ t626) ++ (⟨#[10]⟩ : ByteArray))) (wrap64 (x4 + 1)) x622000 x622001 x622002 x622003 x622004 x622005) else (none)) else (none)) else (none))) else (none)) else (if x622000 = 0 then (spec_FormatOutcome.j1 k x3 x622001 x622000 x622001 x622002 x622003 x622004 x622005) else (spec_FormatOutcome.j1 k x3 false x622000 x622001 x622002 x622003 x622004 x622005))
def spec_FormatOutcome.j1 : Nat → List Int → Bool → Int → Bool → Int → Int → List Int → Int → Option (ByteArray)
 | 0, _, _, _, _, _, _, _, _ => none
 | k + 1, x3, x23, x622000, x622001, x622002, x622003, x622004, x622005 => if x23 = true then (if (strOfNums x3).size + 14 ≤ 9223372036854775807 then (some ((strOfNums x3) ++ (⟨#[114, 101, 116, 117, 114, 110, 32, 112, 111, 105, 115, 111, 110, 10]⟩ : ByteArray))) else (none)) else (if x622000 = 0 then (spec_FormatOutcome.j2 k x3 (x622002 != 0) x622000 x622001 x622002 x622003 x622004 x622005) else (spec_FormatOutcome.j2 k x3 false x622000 x622001 x622002 x622003 x622004 x622005))
def spec_FormatOutcome.j2 : Nat → List Int → Bool → Int → Bool → Int → Int → List Int → Int → Option (ByteArray)
 | 0, _, _, _, _, _, _, _, _ => none
 | k + 1, x3, x35, x622000, x622001, x622002, x622003, x622004, x622005 => if x35 = true then (if (strOfNums x3).size + 15 ≤ 9223372036854775807 then (some ((strOfNums x3) ++ (⟨#[114, 101, 116, 117, 114, 110, 32, 112, 111, 105, 110, 116, 101, 114, 10]⟩ : ByteArray))) else (none)) else (if x622000 = 0 then (if (strOfNums x3).size + 7 ≤ 9223372036854775807 then ((spec_FormatWord.f k 64 x622003).bind fun t630 => (if ((strOfNums x3) ++ (⟨#[114, 101, 116, 117, 114, 110, 32]⟩ : ByteArray)).size + t630.size ≤ 9223372036854775807 then (if (((strOfNums x3) ++ (⟨#[114, 101, 116, 117, 114, 110, 32]⟩ : ByteArray)) ++ t630).size + 1 ≤ 9223372036854775807 then (some ((((strOfNums x3) ++ (⟨#[114, 101, 116, 117, 114, 110, 32]⟩ : ByteArray)) ++ t630) ++ (⟨#[10]⟩ : ByteArray))) else (none)) else (none))) else (none)) else (if x622000 > 0 then (if x622000 ≤ 7 then ((some (([(⟨#[]⟩ : ByteArray), (⟨#[116, 114, 97, 112]⟩ : ByteArray), (⟨#[117, 110, 100, 101, 102, 105, 110, 101, 100]⟩ : ByteArray), (⟨#[115, 116, 101, 112, 115]⟩ : ByteArray), (⟨#[100, 101, 112, 116, 104]⟩ : ByteArray), (⟨#[112, 114, 105, 110, 116, 115]⟩ : ByteArray), (⟨#[109, 105, 115, 115, 105, 110, 103]⟩ : ByteArray), (⟨#[98, 97, 100]⟩ : ByteArray)] : List ByteArray) : List ByteArray)).bind fun y631 => (if 0 ≤ x622000 then (if x622000 < (y631.length : Int) then (if (strOfNums x3).size + (rdOf ByteArray.empty y631 x622000).size ≤ 9223372036854775807 then (if ((strOfNums x3) ++ (rdOf ByteArray.empty y631 x622000)).size + 1 ≤ 9223372036854775807 then (some (((strOfNums x3) ++ (rdOf ByteArray.empty y631 x622000)) ++ (⟨#[10]⟩ : ByteArray))) else (none)) else (none)) else (none)) else (none))) else (if (strOfNums x3).size + 4 ≤ 9223372036854775807 then (some ((strOfNums x3) ++ (⟨#[98, 97, 100, 10]⟩ : ByteArray))) else (none))) else (if (strOfNums x3).size + 4 ≤ 9223372036854775807 then (some ((strOfNums x3) ++ (⟨#[98, 97, 100, 10]⟩ : ByteArray))) else (none))))
end
def spec_FormatOutcome.f (k : Nat) (a0_0 : Int) (a0_1 : Bool) (a0_2 : Int) (a0_3 : Int) (l0_4 : List Int) (a0_5 : Int) : Option (ByteArray) := spec_FormatOutcome.l0 k (([] : List Int)) 0 a0_0 a0_1 a0_2 a0_3 l0_4 a0_5
def spec_FormatOutcome.T11 : Bool × List (List Nat × List Nat) := (true, [([], []), ([0], [0]), ([1], [1]), ([], []), ([3], [3]), ([4], [4]), ([5], [5]), ([2, 6], [2, 6]), ([7], [7]), ([8, 6, 0, 1, 2, 3, 4, 5, 6, 7, 8], [8])])
def spec_FormatOutcome.B11 : List Nat := [0, 1, 3, 0, 8, 24, 56, 127, 255, 511]
theorem spec_FormatOutcome.tab11 : rtab .any (opsOf Tryd.f9 11) = spec_FormatOutcome.T11 := by kernel_rfl
theorem spec_FormatOutcome.bits11 : waitsOk spec_FormatOutcome.T11.2 spec_FormatOutcome.B11 = true := by kernel_rfl
def spec_FormatOutcome.T13 : Bool × List (List Nat × List Nat) := (true, [([], []), ([0], [0]), ([], []), ([], []), ([3], [3]), ([2, 4], [2, 4]), ([5], [5]), ([1, 6], [1, 6]), ([7], [7]), ([8, 0, 1, 2, 3, 4, 5, 6, 7, 8], [8])])
def spec_FormatOutcome.B13 : List Nat := [0, 1, 0, 0, 8, 28, 60, 127, 255, 511]
theorem spec_FormatOutcome.tab13 : rtab .any (opsOf Tryd.f9 13) = spec_FormatOutcome.T13 := by kernel_rfl
theorem spec_FormatOutcome.bits13 : waitsOk spec_FormatOutcome.T13.2 spec_FormatOutcome.B13 = true := by kernel_rfl
set_option maxHeartbeats 8000000 in
set_option maxRecDepth 100000 in
theorem spec_FormatOutcome.calls (k : Nat) (a0_0 : Int) (a0_1 : Bool) (a0_2 : Int) (a0_3 : Int) (A0_4 : Option Addr) (c0_4 : Nat) (l0_4 : List Int) (a0_5 : Int) (r : ByteArray) (w : World) (hr0_4 : Kd.C (Kd.int .u64) w A0_4 l0_4.length l0_4) (hc0_4 : l0_4.length ≤ c0_4) (h : spec_FormatOutcome.f k a0_0 a0_1 a0_2 a0_3 l0_4 a0_5 = some r) :
 Calls Tryd.prog 9 #[.agg #[.int .i64 a0_0, .bool a0_1, .int .i64 a0_2, .int .u64 a0_3, .slice A0_4 l0_4.length c0_4, .int .i64 a0_5]] w fun e w' => e = .returned (.string r) ∧ Below w.heap.size w w' := by
 have hu32 := Tryd.underlying32
 have HR0_4 := Aside0.mk hr0_4
 have HC0_4 := Aside0.mk hc0_4
 clear hr0_4 hc0_4
 have HB := Aside0.mk (Below.refl w.heap.size w)
 have H : (spec_FormatOutcome.l0 k (([] : List Int)) 0 a0_0 a0_1 a0_2 a0_3 l0_4 a0_5) = some r := h
 clear h
 obtain ⟨y622, hy622⟩ : ∃ y_ : List Int, y_ = (([] : List Int)) := ⟨_, rfl⟩
 replace H : (spec_FormatOutcome.l0 k y622 0 a0_0 a0_1 a0_2 a0_3 l0_4 a0_5) = some r := by first | (rw [hy622]; with_reducible exact H) | (have H2_ := (Option.bind_some _ _).symm.trans H; rw [hy622]; with_reducible exact H2_) | (have H2_ := (Option.bind_some _ _).symm.trans H; with_reducible exact H2_) | with_reducible exact H | (rw [hy622]; exact H) | exact H
 have Ny622 := Aside0.mk hy622
 clear hy622
 have H' := Aside0.mk H
 clear H
 go_enter Tryd.func9, Tryd.ntmps9
 go_wp2_with (first | ((with_reducible refine gate_dst (N := 1) rfl ?_); refine box_event ?hg (N := 1) ?hd (cs := #[.int .i64 a0_0, .bool a0_1, .int .i64 a0_2, .int .u64 a0_3, .slice A0_4 l0_4.length c0_4, .int .i64 a0_5]) (t := 32) ?hr ?_; (case hd => rfl); (case hg => rfl); (case hr => first | (go_simp; done) | (go_simp; rfl)); intro gb621 hg w2 hbox hb; have n0_ := Aside0.mk (below_step (by repeat (first | (with_reducible first | exact HB.out | apply below_alloc | apply pw_below_drewN | apply below_drew1) | exact HB.out)) hb); have n1_ := Aside0.mk (hbox); have n2_ := Aside0.mk ((by rw [hg]; exact (below_size (by repeat (first | (with_reducible first | exact HB.out | apply below_alloc | apply pw_below_drewN | apply below_drew1) | exact HB.out))) : w.heap.size ≤ gb621)); have n3_ := Aside0.mk ((by rw [hg]; exact (below_size (by repeat (first | (with_reducible first | exact HB.out | apply below_alloc | apply pw_below_drewN | apply below_drew1) | exact HB.out))) : w.heap.size ≤ gb621)); clear HB; have HB := n0_; have BK621 := n1_; have GW621 := n2_; have GE621 := n3_; clear n0_ n1_ n2_ n3_; clear hb hbox hg) | ((with_reducible refine gate_dst (N := 5) rfl ?_); refine Kd.R_lit (Kd.int .u8) _ 5 ?hg (N := 5) ?hd (xs := ([] : List Int)) (inner := []) (ok := fun _ => True) (okp := fun _ => True) ?hr ?hp (fun _ hk => hk) trivial (Below.refl _ _) (Nat.le_refl _) (by simp) ?_; (case hd => rfl); (case hg => rfl); (case hr => first | (go_simp; done) | (go_simp; rfl)); (case hp => exact (Reps.none _ _)); intro v623 w3 ho4 hb hg_ hnew_; clear hg_ hnew_; (first | rw [← Ny622.out] at ho4 | (simp only [Int.reduceToNat] at ho4; rw [← Ny622.out] at ho4)); have n0_ := Aside0.mk (Kd.R_lower ho4 (below_size (by repeat (first | (with_reducible first | exact HB.out | apply below_alloc | apply pw_below_drewN | apply below_drew1 | refine below_set ?_ GE621.out) | exact HB.out)))); have n1_ := Aside0.mk (blk_below (g := gb621) (o := .cells #[.int .i64 a0_0, .bool a0_1, .int .i64 a0_2, .int .u64 a0_3, .slice A0_4 l0_4.length c0_4, .int .i64 a0_5] 32 (0, 0)) (by (with_reducible repeat (first | refine blk_drewN ?_ _ | refine blk_drew ?_ | refine blk_alloc ?_ _)); exact BK621.out) hb); have n2_ := Aside0.mk (below_step (by repeat (first | (with_reducible first | exact HB.out | apply below_alloc | apply pw_below_drewN | apply below_drew1 | refine below_set ?_ GE621.out) | exact HB.out)) hb); clear BK621; clear HB; have HO624 := n0_; have BK621 := n1_; have HB := n2_; clear n0_ n1_ n2_; clear hb ho4))
 go_loopg [3, 4] k (fun kq v3 v4 w' => ∃ (x3_1 : List Int) (x4_1 : Int), v4 = .int .i64 x4_1 ∧ Aside0 (spec_FormatOutcome.l0 kq x3_1 x4_1 a0_0 a0_1 a0_2 a0_3 l0_4 a0_5 = some r) ∧ Aside0 (kq ≤ k) ∧ Aside0 (Kd.R (Kd.int .u8) 5 w' w.heap.size (fun _ => True) v3 x3_1) ∧ Aside0 (w'.heap[gb621]? = some (.cells #[.int .i64 a0_0, .bool a0_1, .int .i64 a0_2, .int .u64 a0_3, (.slice A0_4 l0_4.length c0_4), .int .i64 a0_5] 32 (0, 0))) ∧ Aside0 (Below w.heap.size w w'))
 case atStart => exact ⟨(y622), (0), (by first | rfl | (simp; done) | (simp [*]; done)), H', ⟨Nat.le_refl _⟩, ⟨by (with_reducible repeat (first | apply Kd.R_alloc | apply Kd.R_drewN | apply Kd.R_drew)); exact HO624.out⟩, ⟨by (with_reducible repeat (first | refine blk_drewN ?_ _ | refine blk_drew ?_ | refine blk_alloc ?_ _)); exact BK621.out⟩, ⟨by repeat (first | (with_reducible first | exact HB.out | apply below_alloc | apply pw_below_drewN | apply below_drew1 | refine below_set ?_ GE621.out) | exact HB.out)⟩⟩
 case round =>
  clear H'
  try clear p2
  obtain ⟨x3_1, x4_1, rfl, HA, HK1, HO_3, BK621, HB⟩ := hrel
  cases gk with
  | zero => exact absurd HA.out (by simp [spec_FormatOutcome.l0])
  | succ k1 =>
   have H := HA.out
   clear HA
   simp only [spec_FormatOutcome.l0] at H
   by_cases c5 : x4_1 < (l0_4.length : Int)
   · rw [if_pos c5] at H
     have c5b0 : decide (x4_1 < (l0_4.length : Int)) = true := decide_eq_true c5
     clear c5
     by_cases c6 : 0 ≤ x4_1
     · rw [if_pos c6] at H
       have c6b0 : decide (0 ≤ x4_1) = true := decide_eq_true c6
       clear c6
       replace H := Option.bind_eq_some_iff.mp H
       obtain ⟨t626, A70, H⟩ := H
       replace H : (if 6 + t626.size ≤ 9223372036854775807 then (if ((⟨#[112, 114, 105, 110, 116, 32]⟩ : ByteArray) ++ t626).size + 1 ≤ 9223372036854775807 then (if x3_1.length + (((⟨#[112, 114, 105, 110, 116, 32]⟩ : ByteArray) ++ t626) ++ (⟨#[10]⟩ : ByteArray)).size < 140737488355328 then (spec_FormatOutcome.l0 k1 (x3_1 ++ bytesOf (((⟨#[112, 114, 105, 110, 116, 32]⟩ : ByteArray) ++ t626) ++ (⟨#[10]⟩ : ByteArray))) (wrap64 (x4_1 + 1)) a0_0 a0_1 a0_2 a0_3 l0_4 a0_5) else (none)) else (none)) else (none)) = some r := H
       have A7 := Aside0.mk A70
       clear A70
       by_cases c8 : 6 + t626.size ≤ 9223372036854775807
       · rw [if_pos c8] at H
         have c8b0 := eq_true c8
         have c8b1 : decide (6 + t626.size ≤ 9223372036854775807) = true := decide_eq_true c8
         try have c8b2 : (9223372036854775807 < 6 + t626.size) = False := eq_false (Nat.not_lt.2 c8)
         by_cases c9 : ((⟨#[112, 114, 105, 110, 116, 32]⟩ : ByteArray) ++ t626).size + 1 ≤ 9223372036854775807
         · rw [if_pos c9] at H
           have c9b0 := eq_true c9
           have c9b1 : decide (((⟨#[112, 114, 105, 110, 116, 32]⟩ : ByteArray) ++ t626).size + 1 ≤ 9223372036854775807) = true := decide_eq_true c9
           have c9b7 : 6 + t626.size + 1 ≤ 9223372036854775807 := by have q_ := c9; simp only [ByteArray.size_append] at q_; exact q_
           have c9b8 := eq_true c9b7
           try have c9b9 : (9223372036854775807 < 6 + t626.size + 1) = False := eq_false (Nat.not_lt.2 c9b7)
           clear c9b7
           try have c9b2 : (9223372036854775807 < ((⟨#[112, 114, 105, 110, 116, 32]⟩ : ByteArray) ++ t626).size + 1) = False := eq_false (Nat.not_lt.2 c9)
           by_cases c10 : x3_1.length + (((⟨#[112, 114, 105, 110, 116, 32]⟩ : ByteArray) ++ t626) ++ (⟨#[10]⟩ : ByteArray)).size < 140737488355328
           · rw [if_pos c10] at H
             have LMc10 := Aside0.mk c10
             clear c10
             obtain ⟨y627, hy627⟩ : ∃ y_ : List Int, y_ = (x3_1 ++ bytesOf (((⟨#[112, 114, 105, 110, 116, 32]⟩ : ByteArray) ++ t626) ++ (⟨#[10]⟩ : ByteArray))) := ⟨_, rfl⟩
             replace H : (spec_FormatOutcome.l0 k1 y627 (wrap64 (x4_1 + 1)) a0_0 a0_1 a0_2 a0_3 l0_4 a0_5) = some r := by first | (rw [hy627]; with_reducible exact H) | (have H2_ := (Option.bind_some _ _).symm.trans H; rw [hy627]; with_reducible exact H2_) | (have H2_ := (Option.bind_some _ _).symm.trans H; with_reducible exact H2_) | with_reducible exact H | (rw [hy627]; exact H) | exact H
             have Ny627 := Aside0.mk hy627
             clear hy627
             have H' := Aside0.mk H
             clear H
             have hcz11_0 : wr.cell? ⟨gb621, 0, none⟩ = some (.int .i64 a0_0) := (blk_cell BK621.out 0).trans rfl
             have hcz11_1 : wr.cell? ⟨gb621, 1, none⟩ = some (.bool a0_1) := (blk_cell BK621.out 1).trans rfl
             have hcz11_2 : wr.cell? ⟨gb621, 2, none⟩ = some (.int .i64 a0_2) := (blk_cell BK621.out 2).trans rfl
             have hcz11_3 : wr.cell? ⟨gb621, 3, none⟩ = some (.int .u64 a0_3) := (blk_cell BK621.out 3).trans rfl
             have hcz11_4 : wr.cell? ⟨gb621, 4, none⟩ = some (.slice A0_4 l0_4.length c0_4) := (blk_cell BK621.out 4).trans rfl
             have hcz11_5 : wr.cell? ⟨gb621, 5, none⟩ = some (.int .i64 a0_5) := (blk_cell BK621.out 5).trans rfl
             have hfz11_0 := blk_frozen BK621.out 0
             have hfz11_1 := blk_frozen BK621.out 1
             have hfz11_2 := blk_frozen BK621.out 2
             have hfz11_3 := blk_frozen BK621.out 3
             have hfz11_4 := blk_frozen BK621.out 4
             have hfz11_5 := blk_frozen BK621.out 5
             have p625 : 0 ≤ (x4_1 : Int) := of_decide_eq_true (by first | (with_reducible assumption) | assumption)
             have q625 : x4_1 < (l0_4.length : Int) := of_decide_eq_true (by first | (with_reducible assumption) | assumption)
             obtain ⟨ad625, e625, hx625_0⟩ := Kd.at_int HR0_4.out x4_1 p625 q625
             cases e625
             replace hx625_0 := (HB.out.cell (World.block_lt_of_cell? w _ hx625_0)).trans hx625_0
             replace p625 := eq_true p625
             replace q625 := eq_true q625
             go_wp2_with (first | ((with_reducible refine gate_callee (f := 23) rfl ?_); refine goesL_ (some 19) rfl rfl Tryd.func23 (by kernel_rfl) rfl #[.int .i64 64, .int .u64 (rd l0_4 x4_1)] rfl (by (try simp only [List.map_toArray, List.map_cons, List.map_nil]); first | done | rfl | (simp only [List.length_drop, List.length_take]; rfl)) ?_; (with_reducible refine (spec_FormatWord.calls k1 64 (rd l0_4 x4_1) t626 _ A7.out).mono ?_); rintro e w12 ⟨rfl, hb⟩; refine ⟨_, rfl, ?_⟩; have n0_ := Aside0.mk (Kd.R_below (by (with_reducible repeat (first | apply Kd.R_alloc | apply Kd.R_drewN | apply Kd.R_drew)); exact HO_3.out) hb); have n1_ := Aside0.mk (blk_below (g := gb621) (o := .cells #[.int .i64 a0_0, .bool a0_1, .int .i64 a0_2, .int .u64 a0_3, .slice (some ad625) l0_4.length c0_4, .int .i64 a0_5] 32 (0, 0)) (by (with_reducible repeat (first | refine blk_drewN ?_ _ | refine blk_drew ?_ | refine blk_alloc ?_ _)); exact BK621.out) hb); have n2_ := Aside0.mk (below_step (by repeat (first | (with_reducible first | exact HB.out | apply below_alloc | apply pw_below_drewN | apply below_drew1 | refine below_set ?_ GE621.out) | exact HB.out)) hb); clear HO_3; clear BK621; clear HB; have HO_3 := n0_; have BK621 := n1_; have HB := n2_; clear n0_ n1_ n2_; (try clear hb); (try clear hb2); (try clear hk); (try clear hi)) | (at_builtin; refine print_append_str (w0 := w) w.heap.size rfl (.tmp 13) _ 41 9 5 rfl Tryd.underlying41 Tryd.underlying9 info5 u3 x3_1 (((⟨#[112, 114, 105, 110, 116, 32]⟩ : ByteArray) ++ t626) ++ (⟨#[10]⟩ : ByteArray)) rfl rfl ?aO ?aB ?aS ?aL ?_; (case aB => exact (by repeat (first | (with_reducible first | exact HB.out | apply below_alloc | apply pw_below_drewN | apply below_drew1 | refine below_set ?_ GE621.out) | exact HB.out))); (case aO => exact (Kd.own_of_R (by (with_reducible repeat (first | apply Kd.R_alloc | apply Kd.R_drewN | apply Kd.R_drew)); exact HO_3.out))); (case aS => exact (below_size (by repeat (first | (with_reducible first | exact HB.out | apply below_alloc | apply pw_below_drewN | apply below_drew1 | refine below_set ?_ GE621.out) | exact HB.out)))); (case aL => have := LMc10.out; omega); intro v628 w13 ho0 hb hg; have ho := Kd.R_of_own (h1 := fun _ => rfl) (ok := fun _ => True) ho0 (fun _ _ => trivial); clear ho0; have hat := True.intro; rw [← Ny627.out] at ho; change Kd.R (Kd.int .u8) 5 w13 w.heap.size (fun _ => True) v628 y627 at ho; have n0_ := Aside0.mk (blk_grown (g := gb621) (o := .cells #[.int .i64 a0_0, .bool a0_1, .int .i64 a0_2, .int .u64 a0_3, .slice (some ad625) l0_4.length c0_4, .int .i64 a0_5] 32 (0, 0)) (by (with_reducible repeat (first | refine blk_drewN ?_ _ | refine blk_drew ?_ | refine blk_alloc ?_ _)); exact BK621.out) hg (Kd.R_ne HO_3.out BK621.out (by decide))); have n1_ := Aside0.mk (hb); have n2_ := Aside0.mk (ho); clear BK621; clear HB; clear HO_3; have BK621 := n0_; have HB := n1_; have HO629 := n2_; clear n0_ n1_ n2_; clear ho hb hg hat))
             go_roundg k1
             case measure => have := HK1.out; omega
             case rel => exact ⟨(y627), (wrap64 (x4_1 + 1)), (by first | rfl | (simp; done) | (simp [*]; done)), H', ⟨by have := HK1.out; omega⟩, ⟨by (with_reducible repeat (first | apply Kd.R_alloc | apply Kd.R_drewN | apply Kd.R_drew)); exact HO629.out⟩, ⟨by (with_reducible repeat (first | refine blk_drewN ?_ _ | refine blk_drew ?_ | refine blk_alloc ?_ _)); exact BK621.out⟩, ⟨by repeat (first | (with_reducible first | exact HB.out | apply below_alloc | apply pw_below_drewN | apply below_drew1 | refine below_set ?_ GE621.out) | exact HB.out)⟩⟩
           · rw [if_neg c10] at H
             exact absurd H (by simp)
         · rw [if_neg c9] at H
           exact absurd H (by simp)
       · rw [if_neg c8] at H
         exact absurd H (by simp)
     · rw [if_neg c6] at H
       exact absurd H (by simp)
   · rw [if_neg c5] at H
     have c5b0 : decide (x4_1 < (l0_4.length : Int)) = false := decide_eq_false c5
     clear c5
     have HC14 := Aside0.mk H
     clear H
     have hcz15_0 : wr.cell? ⟨gb621, 0, none⟩ = some (.int .i64 a0_0) := (blk_cell BK621.out 0).trans rfl
     have hcz15_1 : wr.cell? ⟨gb621, 1, none⟩ = some (.bool a0_1) := (blk_cell BK621.out 1).trans rfl
     have hcz15_2 : wr.cell? ⟨gb621, 2, none⟩ = some (.int .i64 a0_2) := (blk_cell BK621.out 2).trans rfl
     have hcz15_3 : wr.cell? ⟨gb621, 3, none⟩ = some (.int .u64 a0_3) := (blk_cell BK621.out 3).trans rfl
     have hcz15_4 : wr.cell? ⟨gb621, 4, none⟩ = some (.slice A0_4 l0_4.length c0_4) := (blk_cell BK621.out 4).trans rfl
     have hcz15_5 : wr.cell? ⟨gb621, 5, none⟩ = some (.int .i64 a0_5) := (blk_cell BK621.out 5).trans rfl
     have hfz15_0 := blk_frozen BK621.out 0
     have hfz15_1 := blk_frozen BK621.out 1
     have hfz15_2 := blk_frozen BK621.out 2
     have hfz15_3 := blk_frozen BK621.out 3
     have hfz15_4 := blk_frozen BK621.out 4
     have hfz15_5 := blk_frozen BK621.out 5
     go_upto_region 6 with (fail)
     go_cut [23] (fun v23 wc => ∃ (kq : Nat) (x23_13 : Bool), v23 = .bool x23_13 ∧ Aside0 (spec_FormatOutcome.j1 kq x3_1 x23_13 a0_0 a0_1 a0_2 a0_3 l0_4 a0_5 = some r) ∧ Aside0 (kq ≤ k1) ∧ Aside0 (Kd.R (Kd.int .u8) 5 wc w.heap.size (fun _ => True) u3 x3_1) ∧ Aside0 (wc.heap[gb621]? = some (.cells #[.int .i64 a0_0, .bool a0_1, .int .i64 a0_2, .int .u64 a0_3, (.slice A0_4 l0_4.length c0_4), .int .i64 a0_5] 32 (0, 0))) ∧ Aside0 (Below w.heap.size w wc))
     case first =>
      have H := HC14.out
      clear HC14
      by_cases c16 : a0_0 = 0
      · rw [if_pos c16] at H
        have c16b0 : (a0_0 == 0) = true := beq_iff_eq.mpr c16
        have c16b1 : (a0_0 != 0) = false := bne_eq_false_iff_eq.mpr c16
        clear c16
        (first | rw [c16b0] | (simp only [i64_w, i32_w]; rw [c16b0]) | skip)
        have H' := Aside0.mk H
        clear H
        have hcz17_0 : wr.cell? ⟨gb621, 0, none⟩ = some (.int .i64 a0_0) := (blk_cell BK621.out 0).trans rfl
        have hcz17_1 : wr.cell? ⟨gb621, 1, none⟩ = some (.bool a0_1) := (blk_cell BK621.out 1).trans rfl
        have hcz17_2 : wr.cell? ⟨gb621, 2, none⟩ = some (.int .i64 a0_2) := (blk_cell BK621.out 2).trans rfl
        have hcz17_3 : wr.cell? ⟨gb621, 3, none⟩ = some (.int .u64 a0_3) := (blk_cell BK621.out 3).trans rfl
        have hcz17_4 : wr.cell? ⟨gb621, 4, none⟩ = some (.slice A0_4 l0_4.length c0_4) := (blk_cell BK621.out 4).trans rfl
        have hcz17_5 : wr.cell? ⟨gb621, 5, none⟩ = some (.int .i64 a0_5) := (blk_cell BK621.out 5).trans rfl
        have hfz17_0 := blk_frozen BK621.out 0
        have hfz17_1 := blk_frozen BK621.out 1
        have hfz17_2 := blk_frozen BK621.out 2
        have hfz17_3 := blk_frozen BK621.out 3
        have hfz17_4 := blk_frozen BK621.out 4
        have hfz17_5 := blk_frozen BK621.out 5
        go_wp2
        go_meet
        case rel => exact ⟨_, (a0_1), (by first | rfl | (simp; done) | (simp [*]; done)), H', ⟨by have := HK1.out; first | omega | exact Nat.le_refl _⟩, ⟨by (with_reducible repeat (first | apply Kd.R_alloc | apply Kd.R_drewN | apply Kd.R_drew)); exact HO_3.out⟩, ⟨by (with_reducible repeat (first | refine blk_drewN ?_ _ | refine blk_drew ?_ | refine blk_alloc ?_ _)); exact BK621.out⟩, ⟨by repeat (first | (with_reducible first | exact HB.out | apply below_alloc | apply pw_below_drewN | apply below_drew1 | refine below_set ?_ GE621.out) | exact HB.out)⟩⟩
      · rw [if_neg c16] at H
        have c16b0 : (a0_0 == 0) = false := beq_eq_false_iff_ne.mpr c16
        have c16b1 : (a0_0 != 0) = true := bne_iff_ne.mpr c16
        (first | rw [c16b0] | (simp only [i64_w, i32_w]; rw [c16b0]) | skip)
        have H' := Aside0.mk H
        clear H
        have hcz18_0 : wr.cell? ⟨gb621, 0, none⟩ = some (.int .i64 a0_0) := (blk_cell BK621.out 0).trans rfl
        have hcz18_1 : wr.cell? ⟨gb621, 1, none⟩ = some (.bool a0_1) := (blk_cell BK621.out 1).trans rfl
        have hcz18_2 : wr.cell? ⟨gb621, 2, none⟩ = some (.int .i64 a0_2) := (blk_cell BK621.out 2).trans rfl
        have hcz18_3 : wr.cell? ⟨gb621, 3, none⟩ = some (.int .u64 a0_3) := (blk_cell BK621.out 3).trans rfl
        have hcz18_4 : wr.cell? ⟨gb621, 4, none⟩ = some (.slice A0_4 l0_4.length c0_4) := (blk_cell BK621.out 4).trans rfl
        have hcz18_5 : wr.cell? ⟨gb621, 5, none⟩ = some (.int .i64 a0_5) := (blk_cell BK621.out 5).trans rfl
        have hfz18_0 := blk_frozen BK621.out 0
        have hfz18_1 := blk_frozen BK621.out 1
        have hfz18_2 := blk_frozen BK621.out 2
        have hfz18_3 := blk_frozen BK621.out 3
        have hfz18_4 := blk_frozen BK621.out 4
        have hfz18_5 := blk_frozen BK621.out 5
        go_wp2
        go_meet
        case rel => exact ⟨_, (false), (by first | rfl | (simp; done) | (simp [*]; done)), H', ⟨by have := HK1.out; first | omega | exact Nat.le_refl _⟩, ⟨by (with_reducible repeat (first | apply Kd.R_alloc | apply Kd.R_drewN | apply Kd.R_drew)); exact HO_3.out⟩, ⟨by (with_reducible repeat (first | refine blk_drewN ?_ _ | refine blk_drew ?_ | refine blk_alloc ?_ _)); exact BK621.out⟩, ⟨by repeat (first | (with_reducible first | exact HB.out | apply below_alloc | apply pw_below_drewN | apply below_drew1 | refine below_set ?_ GE621.out) | exact HB.out)⟩⟩
     case rest =>
      clear HC14
      try clear c1
      try clear c2
      try clear p2
      try clear c5
      try clear c5b0
      try clear c6
      try clear c6b0
      try clear p6
      try clear q6
      try clear hx6
      try clear c8
      try clear c8b0
      try clear c8b1
      try clear c8b2
      try clear c9
      try clear c9b0
      try clear c9b1
      try clear c9b2
      try clear c10
      try clear c16
      try clear c16b0
      try clear c16b1
      try clear hcz11_0
      try clear hcz11_1
      try clear hcz11_2
      try clear hcz11_3
      try clear hcz11_4
      try clear hcz11_5
      try clear hcz15_0
      try clear hcz15_1
      try clear hcz15_2
      try clear hcz15_3
      try clear hcz15_4
      try clear hcz15_5
      try clear hcz17_0
      try clear hcz17_1
      try clear hcz17_2
      try clear hcz17_3
      try clear hcz17_4
      try clear hcz17_5
      try clear hcz18_0
      try clear hcz18_1
      try clear hcz18_2
      try clear hcz18_3
      try clear hcz18_4
      try clear hcz18_5
      try clear hfz11_0
      try clear hfz11_1
      try clear hfz11_2
      try clear hfz11_3
      try clear hfz11_4
      try clear hfz11_5
      try clear hfz15_0
      try clear hfz15_1
      try clear hfz15_2
      try clear hfz15_3
      try clear hfz15_4
      try clear hfz15_5
      try clear hfz17_0
      try clear hfz17_1
      try clear hfz17_2
      try clear hfz17_3
      try clear hfz17_4
      try clear hfz17_5
      try clear hfz18_0
      try clear hfz18_1
      try clear hfz18_2
      try clear hfz18_3
      try clear hfz18_4
      try clear hfz18_5
      try clear hx625_0
      try clear p2
      try clear p625
      try clear q625
      obtain ⟨kq, x23_13, rfl, HA, HJ13, HO_3, BK621, HB⟩ := hcut
      cases kq with
      | zero => exact absurd HA.out (by simp [spec_FormatOutcome.j1])
      | succ kj13 =>
       have H := HA.out
       clear HA
       simp only [spec_FormatOutcome.j1] at H
       by_cases c19 : x23_13 = true
       · subst c19
         have H1 : (if (strOfNums x3_1).size + 14 ≤ 9223372036854775807 then (some ((strOfNums x3_1) ++ (⟨#[114, 101, 116, 117, 114, 110, 32, 112, 111, 105, 115, 111, 110, 10]⟩ : ByteArray))) else (none)) = some r := by rw [if_pos rfl] at H; exact H
         clear H
         have H := H1
         clear H1
         by_cases c20 : (strOfNums x3_1).size + 14 ≤ 9223372036854775807
         · rw [if_pos c20] at H
           have c20b0 := eq_true c20
           have c20b1 : decide ((strOfNums x3_1).size + 14 ≤ 9223372036854775807) = true := decide_eq_true c20
           try have c20b2 : (9223372036854775807 < (strOfNums x3_1).size + 14) = False := eq_false (Nat.not_lt.2 c20)
           obtain rfl := Option.some.inj H
           have hcv21 := own_string (P := Tryd.prog) Tryd.underlying41 Tryd.underlying5 Tryd.underlying9 (Kd.own_of_R HO_3.out)
           go_wp2
           go_ret
           exact ⟨by first | rfl | (simp [errW_none, errW_some] <;> rfl) | (simp [*, errW_none, errW_some] <;> rfl), by repeat (first | (with_reducible first | exact HB.out | apply below_alloc | apply pw_below_drewN | apply below_drew1 | refine below_set ?_ GE621.out) | exact HB.out)⟩
         · rw [if_neg c20] at H
           exact absurd H (by simp)
       · replace c19 := Bool.eq_false_iff.mpr c19
         subst c19
         have H1 : (if a0_0 = 0 then (spec_FormatOutcome.j2 kj13 x3_1 (a0_2 != 0) a0_0 a0_1 a0_2 a0_3 l0_4 a0_5) else (spec_FormatOutcome.j2 kj13 x3_1 false a0_0 a0_1 a0_2 a0_3 l0_4 a0_5)) = some r := by rw [if_neg (show ¬ (false = true) by decide)] at H; exact H
         clear H
         have H := H1
         clear H1
         have HC22 := Aside0.mk H
         clear H
         go_upto_region 8 with (fail)
         go_cut [35] (fun v35 wc => ∃ (kq : Nat) (x35_21 : Bool), v35 = .bool x35_21 ∧ Aside0 (spec_FormatOutcome.j2 kq x3_1 x35_21 a0_0 a0_1 a0_2 a0_3 l0_4 a0_5 = some r) ∧ Aside0 (kq ≤ kj13) ∧ Aside0 (Kd.R (Kd.int .u8) 5 wc w.heap.size (fun _ => True) u3 x3_1) ∧ Aside0 (wc.heap[gb621]? = some (.cells #[.int .i64 a0_0, .bool a0_1, .int .i64 a0_2, .int .u64 a0_3, (.slice A0_4 l0_4.length c0_4), .int .i64 a0_5] 32 (0, 0))) ∧ Aside0 (Below w.heap.size w wc))
         case first =>
          have H := HC22.out
          clear HC22
          by_cases c23 : a0_0 = 0
          · rw [if_pos c23] at H
            have c23b0 : (a0_0 == 0) = true := beq_iff_eq.mpr c23
            have c23b1 : (a0_0 != 0) = false := bne_eq_false_iff_eq.mpr c23
            clear c23
            (first | rw [c23b0] | (simp only [i64_w, i32_w]; rw [c23b0]) | skip)
            have H' := Aside0.mk H
            clear H
            have hcz24_0 : wc.cell? ⟨gb621, 0, none⟩ = some (.int .i64 a0_0) := (blk_cell BK621.out 0).trans rfl
            have hcz24_1 : wc.cell? ⟨gb621, 1, none⟩ = some (.bool a0_1) := (blk_cell BK621.out 1).trans rfl
            have hcz24_2 : wc.cell? ⟨gb621, 2, none⟩ = some (.int .i64 a0_2) := (blk_cell BK621.out 2).trans rfl
            have hcz24_3 : wc.cell? ⟨gb621, 3, none⟩ = some (.int .u64 a0_3) := (blk_cell BK621.out 3).trans rfl
            have hcz24_4 : wc.cell? ⟨gb621, 4, none⟩ = some (.slice A0_4 l0_4.length c0_4) := (blk_cell BK621.out 4).trans rfl
            have hcz24_5 : wc.cell? ⟨gb621, 5, none⟩ = some (.int .i64 a0_5) := (blk_cell BK621.out 5).trans rfl
            have hfz24_0 := blk_frozen BK621.out 0
            have hfz24_1 := blk_frozen BK621.out 1
            have hfz24_2 := blk_frozen BK621.out 2
            have hfz24_3 := blk_frozen BK621.out 3
            have hfz24_4 := blk_frozen BK621.out 4
            have hfz24_5 := blk_frozen BK621.out 5
            go_wp2
            go_meet
            case rel => exact ⟨_, ((a0_2 != 0)), (by first | rfl | (simp; done) | (simp [*]; done)), H', ⟨by have := HK1.out; have := HJ13.out; first | omega | exact Nat.le_refl _⟩, ⟨by (with_reducible repeat (first | apply Kd.R_alloc | apply Kd.R_drewN | apply Kd.R_drew)); exact HO_3.out⟩, ⟨by (with_reducible repeat (first | refine blk_drewN ?_ _ | refine blk_drew ?_ | refine blk_alloc ?_ _)); exact BK621.out⟩, ⟨by repeat (first | (with_reducible first | exact HB.out | apply below_alloc | apply pw_below_drewN | apply below_drew1 | refine below_set ?_ GE621.out) | exact HB.out)⟩⟩
          · rw [if_neg c23] at H
            have c23b0 : (a0_0 == 0) = false := beq_eq_false_iff_ne.mpr c23
            have c23b1 : (a0_0 != 0) = true := bne_iff_ne.mpr c23
            (first | rw [c23b0] | (simp only [i64_w, i32_w]; rw [c23b0]) | skip)
            have H' := Aside0.mk H
            clear H
            have hcz25_0 : wc.cell? ⟨gb621, 0, none⟩ = some (.int .i64 a0_0) := (blk_cell BK621.out 0).trans rfl
            have hcz25_1 : wc.cell? ⟨gb621, 1, none⟩ = some (.bool a0_1) := (blk_cell BK621.out 1).trans rfl
            have hcz25_2 : wc.cell? ⟨gb621, 2, none⟩ = some (.int .i64 a0_2) := (blk_cell BK621.out 2).trans rfl
            have hcz25_3 : wc.cell? ⟨gb621, 3, none⟩ = some (.int .u64 a0_3) := (blk_cell BK621.out 3).trans rfl
            have hcz25_4 : wc.cell? ⟨gb621, 4, none⟩ = some (.slice A0_4 l0_4.length c0_4) := (blk_cell BK621.out 4).trans rfl
            have hcz25_5 : wc.cell? ⟨gb621, 5, none⟩ = some (.int .i64 a0_5) := (blk_cell BK621.out 5).trans rfl
            have hfz25_0 := blk_frozen BK621.out 0
            have hfz25_1 := blk_frozen BK621.out 1
            have hfz25_2 := blk_frozen BK621.out 2
            have hfz25_3 := blk_frozen BK621.out 3
            have hfz25_4 := blk_frozen BK621.out 4
            have hfz25_5 := blk_frozen BK621.out 5
            go_wp2
            go_meet
            case rel => exact ⟨_, (false), (by first | rfl | (simp; done) | (simp [*]; done)), H', ⟨by have := HK1.out; have := HJ13.out; first | omega | exact Nat.le_refl _⟩, ⟨by (with_reducible repeat (first | apply Kd.R_alloc | apply Kd.R_drewN | apply Kd.R_drew)); exact HO_3.out⟩, ⟨by (with_reducible repeat (first | refine blk_drewN ?_ _ | refine blk_drew ?_ | refine blk_alloc ?_ _)); exact BK621.out⟩, ⟨by repeat (first | (with_reducible first | exact HB.out | apply below_alloc | apply pw_below_drewN | apply below_drew1 | refine below_set ?_ GE621.out) | exact HB.out)⟩⟩
         case rest =>
          clear HC22
          try clear c1
          try clear c2
          try clear p2
          try clear hcv2
          try clear c5
          try clear c5b0
          try clear c6
          try clear c6b0
          try clear p6
          try clear q6
          try clear hx6
          try clear c8
          try clear c8b0
          try clear c8b1
          try clear c8b2
          try clear c9
          try clear c9b0
          try clear c9b1
          try clear c9b2
          try clear c10
          try clear c16
          try clear c16b0
          try clear c16b1
          try clear c19
          try clear c20
          try clear c20b0
          try clear c20b1
          try clear c20b2
          try clear hcv21
          try clear c23
          try clear c23b0
          try clear c23b1
          try clear hcz11_0
          try clear hcz11_1
          try clear hcz11_2
          try clear hcz11_3
          try clear hcz11_4
          try clear hcz11_5
          try clear hcz15_0
          try clear hcz15_1
          try clear hcz15_2
          try clear hcz15_3
          try clear hcz15_4
          try clear hcz15_5
          try clear hcz17_0
          try clear hcz17_1
          try clear hcz17_2
          try clear hcz17_3
          try clear hcz17_4
          try clear hcz17_5
          try clear hcz18_0
          try clear hcz18_1
          try clear hcz18_2
          try clear hcz18_3
          try clear hcz18_4
          try clear hcz18_5
          try clear hcz24_0
          try clear hcz24_1
          try clear hcz24_2
          try clear hcz24_3
          try clear hcz24_4
          try clear hcz24_5
          try clear hcz25_0
          try clear hcz25_1
          try clear hcz25_2
          try clear hcz25_3
          try clear hcz25_4
          try clear hcz25_5
          try clear hfz11_0
          try clear hfz11_1
          try clear hfz11_2
          try clear hfz11_3
          try clear hfz11_4
          try clear hfz11_5
          try clear hfz15_0
          try clear hfz15_1
          try clear hfz15_2
          try clear hfz15_3
          try clear hfz15_4
          try clear hfz15_5
          try clear hfz17_0
          try clear hfz17_1
          try clear hfz17_2
          try clear hfz17_3
          try clear hfz17_4
          try clear hfz17_5
          try clear hfz18_0
          try clear hfz18_1
          try clear hfz18_2
          try clear hfz18_3
          try clear hfz18_4
          try clear hfz18_5
          try clear hfz24_0
          try clear hfz24_1
          try clear hfz24_2
          try clear hfz24_3
          try clear hfz24_4
          try clear hfz24_5
          try clear hfz25_0
          try clear hfz25_1
          try clear hfz25_2
          try clear hfz25_3
          try clear hfz25_4
          try clear hfz25_5
          try clear hx625_0
          try clear p2
          try clear p6
          try clear p625
          try clear q6
          try clear q625
          obtain ⟨kq, x35_21, rfl, HA, HJ21, HO_3, BK621, HB⟩ := hcut
          cases kq with
          | zero => exact absurd HA.out (by simp [spec_FormatOutcome.j2])
          | succ kj21 =>
           have H := HA.out
           clear HA
           simp only [spec_FormatOutcome.j2] at H
           by_cases c26 : x35_21 = true
           · subst c26
             have H1 : (if (strOfNums x3_1).size + 15 ≤ 9223372036854775807 then (some ((strOfNums x3_1) ++ (⟨#[114, 101, 116, 117, 114, 110, 32, 112, 111, 105, 110, 116, 101, 114, 10]⟩ : ByteArray))) else (none)) = some r := by rw [if_pos rfl] at H; exact H
             clear H
             have H := H1
             clear H1
             by_cases c27 : (strOfNums x3_1).size + 15 ≤ 9223372036854775807
             · rw [if_pos c27] at H
               have c27b0 := eq_true c27
               have c27b1 : decide ((strOfNums x3_1).size + 15 ≤ 9223372036854775807) = true := decide_eq_true c27
               try have c27b2 : (9223372036854775807 < (strOfNums x3_1).size + 15) = False := eq_false (Nat.not_lt.2 c27)
               obtain rfl := Option.some.inj H
               have hcv28 := own_string (P := Tryd.prog) Tryd.underlying41 Tryd.underlying5 Tryd.underlying9 (Kd.own_of_R HO_3.out)
               go_wp2
               go_ret
               exact ⟨by first | rfl | (simp [errW_none, errW_some] <;> rfl) | (simp [*, errW_none, errW_some] <;> rfl), by repeat (first | (with_reducible first | exact HB.out | apply below_alloc | apply pw_below_drewN | apply below_drew1 | refine below_set ?_ GE621.out) | exact HB.out)⟩
             · rw [if_neg c27] at H
               exact absurd H (by simp)
           · replace c26 := Bool.eq_false_iff.mpr c26
             subst c26
             have H1 : (if a0_0 = 0 then (if (strOfNums x3_1).size + 7 ≤ 9223372036854775807 then ((spec_FormatWord.f kj21 64 a0_3).bind fun t630 => (if ((strOfNums x3_1) ++ (⟨#[114, 101, 116, 117, 114, 110, 32]⟩ : ByteArray)).size + t630.size ≤ 9223372036854775807 then (if (((strOfNums x3_1) ++ (⟨#[114, 101, 116, 117, 114, 110, 32]⟩ : ByteArray)) ++ t630).size + 1 ≤ 9223372036854775807 then (some ((((strOfNums x3_1) ++ (⟨#[114, 101, 116, 117, 114, 110, 32]⟩ : ByteArray)) ++ t630) ++ (⟨#[10]⟩ : ByteArray))) else (none)) else (none))) else (none)) else (if a0_0 > 0 then (if a0_0 ≤ 7 then ((some (([(⟨#[]⟩ : ByteArray), (⟨#[116, 114, 97, 112]⟩ : ByteArray), (⟨#[117, 110, 100, 101, 102, 105, 110, 101, 100]⟩ : ByteArray), (⟨#[115, 116, 101, 112, 115]⟩ : ByteArray), (⟨#[100, 101, 112, 116, 104]⟩ : ByteArray), (⟨#[112, 114, 105, 110, 116, 115]⟩ : ByteArray), (⟨#[109, 105, 115, 115, 105, 110, 103]⟩ : ByteArray), (⟨#[98, 97, 100]⟩ : ByteArray)] : List ByteArray) : List ByteArray)).bind fun y631 => (if 0 ≤ a0_0 then (if a0_0 < (y631.length : Int) then (if (strOfNums x3_1).size + (rdOf ByteArray.empty y631 a0_0).size ≤ 9223372036854775807 then (if ((strOfNums x3_1) ++ (rdOf ByteArray.empty y631 a0_0)).size + 1 ≤ 9223372036854775807 then (some (((strOfNums x3_1) ++ (rdOf ByteArray.empty y631 a0_0)) ++ (⟨#[10]⟩ : ByteArray))) else (none)) else (none)) else (none)) else (none))) else (if (strOfNums x3_1).size + 4 ≤ 9223372036854775807 then (some ((strOfNums x3_1) ++ (⟨#[98, 97, 100, 10]⟩ : ByteArray))) else (none))) else (if (strOfNums x3_1).size + 4 ≤ 9223372036854775807 then (some ((strOfNums x3_1) ++ (⟨#[98, 97, 100, 10]⟩ : ByteArray))) else (none)))) = some r := by rw [if_neg (show ¬ (false = true) by decide)] at H; exact H
             clear H
             have H := H1
             clear H1
             by_cases c29 : a0_0 = 0
             · rw [if_pos c29] at H
               have c29b0 : (a0_0 == 0) = true := beq_iff_eq.mpr c29
               have c29b1 : (a0_0 != 0) = false := bne_eq_false_iff_eq.mpr c29
               clear c29
               by_cases c30 : (strOfNums x3_1).size + 7 ≤ 9223372036854775807
               · rw [if_pos c30] at H
                 have c30b0 := eq_true c30
                 have c30b1 : decide ((strOfNums x3_1).size + 7 ≤ 9223372036854775807) = true := decide_eq_true c30
                 try have c30b2 : (9223372036854775807 < (strOfNums x3_1).size + 7) = False := eq_false (Nat.not_lt.2 c30)
                 replace H := Option.bind_eq_some_iff.mp H
                 obtain ⟨t630, A310, H⟩ := H
                 replace H : (if ((strOfNums x3_1) ++ (⟨#[114, 101, 116, 117, 114, 110, 32]⟩ : ByteArray)).size + t630.size ≤ 9223372036854775807 then (if (((strOfNums x3_1) ++ (⟨#[114, 101, 116, 117, 114, 110, 32]⟩ : ByteArray)) ++ t630).size + 1 ≤ 9223372036854775807 then (some ((((strOfNums x3_1) ++ (⟨#[114, 101, 116, 117, 114, 110, 32]⟩ : ByteArray)) ++ t630) ++ (⟨#[10]⟩ : ByteArray))) else (none)) else (none)) = some r := H
                 have A31 := Aside0.mk A310
                 clear A310
                 by_cases c32 : ((strOfNums x3_1) ++ (⟨#[114, 101, 116, 117, 114, 110, 32]⟩ : ByteArray)).size + t630.size ≤ 9223372036854775807
                 · rw [if_pos c32] at H
                   have c32b0 := eq_true c32
                   have c32b1 : decide (((strOfNums x3_1) ++ (⟨#[114, 101, 116, 117, 114, 110, 32]⟩ : ByteArray)).size + t630.size ≤ 9223372036854775807) = true := decide_eq_true c32
                   have c32b7 : (strOfNums x3_1).size + 7 + t630.size ≤ 9223372036854775807 := by have q_ := c32; simp only [ByteArray.size_append] at q_; exact q_
                   have c32b8 := eq_true c32b7
                   try have c32b9 : (9223372036854775807 < (strOfNums x3_1).size + 7 + t630.size) = False := eq_false (Nat.not_lt.2 c32b7)
                   clear c32b7
                   try have c32b2 : (9223372036854775807 < ((strOfNums x3_1) ++ (⟨#[114, 101, 116, 117, 114, 110, 32]⟩ : ByteArray)).size + t630.size) = False := eq_false (Nat.not_lt.2 c32)
                   by_cases c33 : (((strOfNums x3_1) ++ (⟨#[114, 101, 116, 117, 114, 110, 32]⟩ : ByteArray)) ++ t630).size + 1 ≤ 9223372036854775807
                   · rw [if_pos c33] at H
                     have c33b0 := eq_true c33
                     have c33b1 : decide ((((strOfNums x3_1) ++ (⟨#[114, 101, 116, 117, 114, 110, 32]⟩ : ByteArray)) ++ t630).size + 1 ≤ 9223372036854775807) = true := decide_eq_true c33
                     have c33b7 : (strOfNums x3_1).size + 7 + t630.size + 1 ≤ 9223372036854775807 := by have q_ := c33; simp only [ByteArray.size_append] at q_; exact q_
                     have c33b8 := eq_true c33b7
                     try have c33b9 : (9223372036854775807 < (strOfNums x3_1).size + 7 + t630.size + 1) = False := eq_false (Nat.not_lt.2 c33b7)
                     clear c33b7
                     try have c33b2 : (9223372036854775807 < (((strOfNums x3_1) ++ (⟨#[114, 101, 116, 117, 114, 110, 32]⟩ : ByteArray)) ++ t630).size + 1) = False := eq_false (Nat.not_lt.2 c33)
                     obtain rfl := Option.some.inj H
                     have hcz34_0 : wc.cell? ⟨gb621, 0, none⟩ = some (.int .i64 a0_0) := (blk_cell BK621.out 0).trans rfl
                     have hcz34_1 : wc.cell? ⟨gb621, 1, none⟩ = some (.bool a0_1) := (blk_cell BK621.out 1).trans rfl
                     have hcz34_2 : wc.cell? ⟨gb621, 2, none⟩ = some (.int .i64 a0_2) := (blk_cell BK621.out 2).trans rfl
                     have hcz34_3 : wc.cell? ⟨gb621, 3, none⟩ = some (.int .u64 a0_3) := (blk_cell BK621.out 3).trans rfl
                     have hcz34_4 : wc.cell? ⟨gb621, 4, none⟩ = some (.slice A0_4 l0_4.length c0_4) := (blk_cell BK621.out 4).trans rfl
                     have hcz34_5 : wc.cell? ⟨gb621, 5, none⟩ = some (.int .i64 a0_5) := (blk_cell BK621.out 5).trans rfl
                     have hfz34_0 := blk_frozen BK621.out 0
                     have hfz34_1 := blk_frozen BK621.out 1
                     have hfz34_2 := blk_frozen BK621.out 2
                     have hfz34_3 := blk_frozen BK621.out 3
                     have hfz34_4 := blk_frozen BK621.out 4
                     have hfz34_5 := blk_frozen BK621.out 5
                     try go_wp2
                     have n0_ := Aside0.mk (Kd.R_drew HO_3.out)
                     have n1_ := Aside0.mk (blk_drew BK621.out)
                     have n2_ := Aside0.mk (below_drew1 HB.out)
                     clear HO_3
                     clear BK621
                     clear HB
                     have HO_3 := n0_
                     have BK621 := n1_
                     have HB := n2_
                     clear n0_ n1_ n2_
                     refine start_ (n := 10) (S := fun w' => w'.cell? ⟨gb621, 0, none⟩ = some (.int .i64 a0_0) ∧ w'.cell? ⟨gb621, 1, none⟩ = some (.bool a0_1) ∧ w'.cell? ⟨gb621, 2, none⟩ = some (.int .i64 a0_2) ∧ w'.cell? ⟨gb621, 3, none⟩ = some (.int .u64 a0_3) ∧ w'.cell? ⟨gb621, 4, none⟩ = some (.slice A0_4 l0_4.length c0_4) ∧ w'.cell? ⟨gb621, 5, none⟩ = some (.int .i64 a0_5)) (ds := []) #[false, false, false, false, false, false, false, false, false, false] (by kernel_rfl) rfl rfl ⟨(blk_cell BK621.out 0).trans rfl, (blk_cell BK621.out 1).trans rfl, (blk_cell BK621.out 2).trans rfl, (blk_cell BK621.out 3).trans rfl, (blk_cell BK621.out 4).trans rfl, (blk_cell BK621.out 5).trans rfl⟩ (fun hHeld => ?_); refine with_tabW spec_FormatOutcome.tab11 spec_FormatOutcome.bits11 (fun HT_ HW_ => ?_)
                     generalize wc.drew = w35 at HO_3 BK621 HB hHeld ⊢
                     refine pure_ (i := 0) (N := some 52) (v := ?_) (a' := ?_) #[true, false, false, false, false, false, false, false, false, false] rfl rfl (any_of HT_.out (by kernel_rfl)) (fun _ _ _ h => h) (Or.inl ⟨by rfl, ?_⟩) ?_ ?_
                     rotate_left
                     · intro w'
                       go_simp
                       with_reducible rfl
                     rotate_left
                     · simp only [Act.put, List.setIfInBounds_toArray, List.set_cons_zero, List.set_cons_succ, i64_w, i32_w]
                       rfl
                     refine pure_ (i := 3) (N := some 55) (v := ?_) (a' := ?_) #[true, false, false, true, false, false, false, false, false, false] rfl rfl (any_of HT_.out (by kernel_rfl)) (fun _ _ _ h => h) (Or.inl ⟨by rfl, ?_⟩) ?_ ?_
                     rotate_left
                     · intro w'
                       go_simp
                       with_reducible rfl
                     rotate_left
                     · simp only [Act.put, List.setIfInBounds_toArray, List.set_cons_zero, List.set_cons_succ, i64_w, i32_w]
                       rfl
                     refine pure_ (i := 4) (N := some 56) (v := ?_) (a' := ?_) #[true, false, false, true, true, false, false, false, false, false] rfl rfl (any_of HT_.out (by kernel_rfl)) (fun _ _ _ h => h) (Or.inl ⟨by rfl, ?_⟩) ?_ ?_
                     rotate_left
                     · intro w'
                       go_simp
                       with_reducible rfl
                     rotate_left
                     · simp only [Act.put, List.setIfInBounds_toArray, List.set_cons_zero, List.set_cons_succ, i64_w, i32_w]
                       rfl
                     refine take_ (i := 5) (N := some 57) (v := ?_) (a' := ?_) #[true, false, false, true, true, true, false, false, false, false] rfl rfl (take_ofW HT_.out HW_.out (by kernel_rfl)) (fun _ _ _ h => h) (Or.inl ⟨by rfl, ?_⟩) hHeld ?_ ?_
                     rotate_left
                     · rintro w' ⟨s0, s1, s2, s3, s4, s5⟩
                       go_simp
                       with_reducible rfl
                     rotate_left
                     · simp only [Act.put, List.setIfInBounds_toArray, List.set_cons_zero, List.set_cons_succ, i64_w, i32_w]
                       rfl
                     refine join_ (σ := Unit) 3 #[true, true, true, true, true, true, true, false, false, false] (fun s_ => [(53, .string (strOfNums x3_1)), (58, .string t630), (54, .string ((strOfNums x3_1) ++ (⟨#[114, 101, 116, 117, 114, 110, 32]⟩ : ByteArray)))]) (fun s_ w' => (w'.cell? ⟨gb621, 0, none⟩ = some (.int .i64 a0_0) ∧ w'.cell? ⟨gb621, 1, none⟩ = some (.bool a0_1) ∧ w'.cell? ⟨gb621, 2, none⟩ = some (.int .i64 a0_2) ∧ w'.cell? ⟨gb621, 3, none⟩ = some (.int .u64 a0_3) ∧ w'.cell? ⟨gb621, 4, none⟩ = some (.slice A0_4 l0_4.length c0_4) ∧ w'.cell? ⟨gb621, 5, none⟩ = some (.int .i64 a0_5)) ∧ (Kd.R (Kd.int .u8) 5 w' w.heap.size (fun _ => True) u3 x3_1) ∧ (w'.heap[gb621]? = some (.cells #[.int .i64 a0_0, .bool a0_1, .int .i64 a0_2, .int .u64 a0_3, .slice A0_4 l0_4.length c0_4, .int .i64 a0_5] 32 (0, 0))) ∧ (Below w.heap.size w w')) ?_ ?_
                     rotate_left
                     · intro hCont
                       refine two_ (i := 1) (j := 6) (Ni := some 53) (Nj := some 58) #[true, true, false, true, true, true, false, false, false, false] #[true, false, false, true, true, true, true, false, false, false] rfl rfl rfl rfl (two_of HT_.out (by kernel_rfl)) (by decide) (by decide) (fun K hK => ?_) (fun K hK => ?_)
                       · skip
                         have hcv36 := own_string (P := Tryd.prog) Tryd.underlying41 Tryd.underlying5 Tryd.underlying9 (Kd.own_of_R HO_3.out)
                         refine value_ (w1 := ?_) (v := ?_) (by rfl) rfl ?_ ?_
                         rotate_left 2
                         · go_simp
                           constructor
                           · rfl
                           · rfl
                         clear hcv36
                         refine hK.out _ _ ⟨(blk_cell BK621.out 0).trans rfl, (blk_cell BK621.out 1).trans rfl, (blk_cell BK621.out 2).trans rfl, (blk_cell BK621.out 3).trans rfl, (blk_cell BK621.out 4).trans rfl, (blk_cell BK621.out 5).trans rfl⟩ (fun hHeld => ?_)
                         clear hK K
                         refine norm_ (a' := ?_) ?_ ?_
                         rotate_left
                         · show Act.put _ (some 53) _ = _
                           simp only [Act.put, List.setIfInBounds_toArray, List.set_cons_zero, List.set_cons_succ, i64_w, i32_w]
                           rfl
                         refine pure_ (i := 2) (N := some 54) (v := ?_) (a' := ?_) #[true, true, true, true, true, true, false, false, false, false] rfl rfl (any_of HT_.out (by kernel_rfl)) (fun _ _ _ h => h) (Or.inl ⟨by rfl, ?_⟩) ?_ ?_
                         rotate_left
                         · intro w'
                           go_simp
                           with_reducible rfl
                         rotate_left
                         · simp only [Act.put, List.setIfInBounds_toArray, List.set_cons_zero, List.set_cons_succ, i64_w, i32_w]
                           rfl
                         refine one_ (i := 6) (N := some 58) #[true, true, true, true, true, true, true, false, false, false] rfl rfl (one_of HT_.out (by kernel_rfl)) (by decide) (fun K hK => ?_)
                         refine goes_ Tryd.func23 (by kernel_rfl) rfl #[.int .i64 64, .int .u64 a0_3] (by rfl) rfl rfl (by (try simp only [List.map_toArray, List.map_cons, List.map_nil]); first | done | rfl | (simp only [List.length_drop, List.length_take]; rfl)) ?_
                         with_reducible refine (spec_FormatWord.calls kj21 64 a0_3 t630 _ A31.out).mono ?_
                         rintro e w37 ⟨rfl, hb⟩
                         refine ⟨_, rfl, ?_⟩
                         have n0_ := Aside0.mk (Kd.R_below (by (with_reducible repeat (first | apply Kd.R_alloc | apply Kd.R_drewN | apply Kd.R_drew)); exact HO_3.out) hb)
                         have n1_ := Aside0.mk (blk_below (g := gb621) (o := .cells #[.int .i64 a0_0, .bool a0_1, .int .i64 a0_2, .int .u64 a0_3, .slice A0_4 l0_4.length c0_4, .int .i64 a0_5] 32 (0, 0)) (by (with_reducible repeat (first | refine blk_drewN ?_ _ | refine blk_drew ?_ | refine blk_alloc ?_ _)); exact BK621.out) hb)
                         have n2_ := Aside0.mk (below_step (by repeat (first | (with_reducible first | exact HB.out | apply below_alloc | apply pw_below_drewN | apply below_drew1 | refine below_set ?_ GE621.out) | exact HB.out)) hb)
                         clear HO_3
                         clear BK621
                         clear HB
                         have HO_3 := n0_
                         have BK621 := n1_
                         have HB := n2_
                         clear n0_ n1_ n2_
                         (try clear hb)
                         (try clear hb2)
                         (try clear hk)
                         (try clear hi)
                         refine hK.out _ _ ⟨(blk_cell BK621.out 0).trans rfl, (blk_cell BK621.out 1).trans rfl, (blk_cell BK621.out 2).trans rfl, (blk_cell BK621.out 3).trans rfl, (blk_cell BK621.out 4).trans rfl, (blk_cell BK621.out 5).trans rfl⟩ (fun hHeld => ?_)
                         clear hK K
                         refine norm_ (a' := ?_) ?_ ?_
                         rotate_left
                         · show Act.put _ (some 58) _ = _
                           simp only [Act.put, List.setIfInBounds_toArray, List.set_cons_zero, List.set_cons_succ, i64_w, i32_w]
                           rfl
                         exact norm_ (by simp only [putAll, Act.put, List.setIfInBounds_toArray, List.set_cons_zero, List.set_cons_succ]) (hCont () _ ⟨hHeld, (by (with_reducible repeat (first | apply Kd.R_alloc | apply Kd.R_drewN | apply Kd.R_drew)); exact HO_3.out), (by (with_reducible repeat (first | refine blk_drewN ?_ _ | refine blk_drew ?_ | refine blk_alloc ?_ _)); exact BK621.out), (by repeat (first | (with_reducible first | exact HB.out | apply below_alloc | apply pw_below_drewN | apply below_drew1 | refine below_set ?_ GE621.out) | exact HB.out))⟩)
                       · skip
                         refine goes_ Tryd.func23 (by kernel_rfl) rfl #[.int .i64 64, .int .u64 a0_3] (by rfl) rfl rfl (by (try simp only [List.map_toArray, List.map_cons, List.map_nil]); first | done | rfl | (simp only [List.length_drop, List.length_take]; rfl)) ?_
                         with_reducible refine (spec_FormatWord.calls kj21 64 a0_3 t630 _ A31.out).mono ?_
                         rintro e w36 ⟨rfl, hb⟩
                         refine ⟨_, rfl, ?_⟩
                         have n0_ := Aside0.mk (Kd.R_below (by (with_reducible repeat (first | apply Kd.R_alloc | apply Kd.R_drewN | apply Kd.R_drew)); exact HO_3.out) hb)
                         have n1_ := Aside0.mk (blk_below (g := gb621) (o := .cells #[.int .i64 a0_0, .bool a0_1, .int .i64 a0_2, .int .u64 a0_3, .slice A0_4 l0_4.length c0_4, .int .i64 a0_5] 32 (0, 0)) (by (with_reducible repeat (first | refine blk_drewN ?_ _ | refine blk_drew ?_ | refine blk_alloc ?_ _)); exact BK621.out) hb)
                         have n2_ := Aside0.mk (below_step (by repeat (first | (with_reducible first | exact HB.out | apply below_alloc | apply pw_below_drewN | apply below_drew1 | refine below_set ?_ GE621.out) | exact HB.out)) hb)
                         clear HO_3
                         clear BK621
                         clear HB
                         have HO_3 := n0_
                         have BK621 := n1_
                         have HB := n2_
                         clear n0_ n1_ n2_
                         (try clear hb)
                         (try clear hb2)
                         (try clear hk)
                         (try clear hi)
                         refine hK.out _ _ ⟨(blk_cell BK621.out 0).trans rfl, (blk_cell BK621.out 1).trans rfl, (blk_cell BK621.out 2).trans rfl, (blk_cell BK621.out 3).trans rfl, (blk_cell BK621.out 4).trans rfl, (blk_cell BK621.out 5).trans rfl⟩ (fun hHeld => ?_)
                         clear hK K
                         refine norm_ (a' := ?_) ?_ ?_
                         rotate_left
                         · show Act.put _ (some 58) _ = _
                           simp only [Act.put, List.setIfInBounds_toArray, List.set_cons_zero, List.set_cons_succ, i64_w, i32_w]
                           rfl
                         refine one_ (i := 1) (N := some 53) #[true, true, false, true, true, true, true, false, false, false] rfl rfl (one_of HT_.out (by kernel_rfl)) (by decide) (fun K hK => ?_)
                         have hcv37 := own_string (P := Tryd.prog) Tryd.underlying41 Tryd.underlying5 Tryd.underlying9 (Kd.own_of_R HO_3.out)
                         refine value_ (w1 := ?_) (v := ?_) (by rfl) rfl ?_ ?_
                         rotate_left 2
                         · go_simp
                           constructor
                           · rfl
                           · rfl
                         clear hcv37
                         refine hK.out _ _ ⟨(blk_cell BK621.out 0).trans rfl, (blk_cell BK621.out 1).trans rfl, (blk_cell BK621.out 2).trans rfl, (blk_cell BK621.out 3).trans rfl, (blk_cell BK621.out 4).trans rfl, (blk_cell BK621.out 5).trans rfl⟩ (fun hHeld => ?_)
                         clear hK K
                         refine norm_ (a' := ?_) ?_ ?_
                         rotate_left
                         · show Act.put _ (some 53) _ = _
                           simp only [Act.put, List.setIfInBounds_toArray, List.set_cons_zero, List.set_cons_succ, i64_w, i32_w]
                           rfl
                         refine pure_ (i := 2) (N := some 54) (v := ?_) (a' := ?_) #[true, true, true, true, true, true, true, false, false, false] rfl rfl (any_of HT_.out (by kernel_rfl)) (fun _ _ _ h => h) (Or.inl ⟨by rfl, ?_⟩) ?_ ?_
                         rotate_left
                         · intro w'
                           go_simp
                           with_reducible rfl
                         rotate_left
                         · simp only [Act.put, List.setIfInBounds_toArray, List.set_cons_zero, List.set_cons_succ, i64_w, i32_w]
                           rfl
                         exact norm_ (by simp only [putAll, Act.put, List.setIfInBounds_toArray, List.set_cons_zero, List.set_cons_succ]) (hCont () _ ⟨hHeld, (by (with_reducible repeat (first | apply Kd.R_alloc | apply Kd.R_drewN | apply Kd.R_drew)); exact HO_3.out), (by (with_reducible repeat (first | refine blk_drewN ?_ _ | refine blk_drew ?_ | refine blk_alloc ?_ _)); exact BK621.out), (by repeat (first | (with_reducible first | exact HB.out | apply below_alloc | apply pw_below_drewN | apply below_drew1 | refine below_set ?_ GE621.out) | exact HB.out))⟩)
                     rintro _ w38 ⟨hS_, h0_, h1_, h2_⟩
                     have n0_ : Aside0 (Kd.R (Kd.int .u8) 5 w38 w.heap.size (fun _ => True) u3 x3_1) := ⟨h0_⟩
                     have n1_ : Aside0 (w38.heap[gb621]? = some (.cells #[.int .i64 a0_0, .bool a0_1, .int .i64 a0_2, .int .u64 a0_3, .slice A0_4 l0_4.length c0_4, .int .i64 a0_5] 32 (0, 0))) := ⟨h1_⟩
                     have n2_ : Aside0 (Below w.heap.size w w38) := ⟨h2_⟩
                     clear HO_3
                     clear BK621
                     clear HB
                     clear h0_ h1_ h2_
                     have HO_3 := n0_
                     have BK621 := n1_
                     have HB := n2_
                     clear n0_ n1_ n2_
                     have hHeld : w38.cell? ⟨gb621, 0, none⟩ = some (.int .i64 a0_0) ∧ w38.cell? ⟨gb621, 1, none⟩ = some (.bool a0_1) ∧ w38.cell? ⟨gb621, 2, none⟩ = some (.int .i64 a0_2) ∧ w38.cell? ⟨gb621, 3, none⟩ = some (.int .u64 a0_3) ∧ w38.cell? ⟨gb621, 4, none⟩ = some (.slice A0_4 l0_4.length c0_4) ∧ w38.cell? ⟨gb621, 5, none⟩ = some (.int .i64 a0_5) := hS_
                     refine norm_ (a' := ?_) ?_ ?_
                     rotate_left
                     · simp only [putAll, Act.put, List.setIfInBounds_toArray, List.set_cons_zero, List.set_cons_succ]
                       rfl
                     refine pure_ (i := 7) (N := some 59) (v := ?_) (a' := ?_) #[true, true, true, true, true, true, true, true, false, false] rfl rfl (any_of HT_.out (by kernel_rfl)) (fun _ _ _ h => h) (Or.inl ⟨by rfl, ?_⟩) ?_ ?_
                     rotate_left
                     · intro w'
                       go_simp
                       with_reducible rfl
                     rotate_left
                     · simp only [Act.put, List.setIfInBounds_toArray, List.set_cons_zero, List.set_cons_succ, i64_w, i32_w]
                       rfl
                     refine pure_ (i := 8) (N := some 60) (v := ?_) (a' := ?_) #[true, true, true, true, true, true, true, true, true, false] rfl rfl (any_of HT_.out (by kernel_rfl)) (fun _ _ _ h => h) (Or.inl ⟨by rfl, ?_⟩) ?_ ?_
                     rotate_left
                     · intro w'
                       go_simp
                       with_reducible rfl
                     rotate_left
                     · simp only [Act.put, List.setIfInBounds_toArray, List.set_cons_zero, List.set_cons_succ, i64_w, i32_w]
                       rfl
                     refine pure_ (i := 9) (N := some 2) (v := ?_) (a' := ?_) #[true, true, true, true, true, true, true, true, true, true] rfl rfl (any_of HT_.out (by kernel_rfl)) (fun _ _ _ h => h) (Or.inl ⟨by rfl, ?_⟩) ?_ ?_
                     rotate_left
                     · intro w'
                       go_simp
                       with_reducible rfl
                     rotate_left
                     · simp only [Act.put, List.setIfInBounds_toArray, List.set_cons_zero, List.set_cons_succ, i64_w, i32_w]
                       rfl
                     refine done_ (done_of HT_.out (by kernel_rfl)) ?_
                     try go_wp2
                     go_ret
                     exact ⟨by first | rfl | (simp [errW_none, errW_some] <;> rfl) | (simp [*, errW_none, errW_some] <;> rfl), by repeat (first | (with_reducible first | exact HB.out | apply below_alloc | apply pw_below_drewN | apply below_drew1 | refine below_set ?_ GE621.out) | exact HB.out)⟩
                   · rw [if_neg c33] at H
                     exact absurd H (by simp)
                 · rw [if_neg c32] at H
                   exact absurd H (by simp)
               · rw [if_neg c30] at H
                 exact absurd H (by simp)
             · rw [if_neg c29] at H
               have c29b0 : (a0_0 == 0) = false := beq_eq_false_iff_ne.mpr c29
               have c29b1 : (a0_0 != 0) = true := bne_iff_ne.mpr c29
               by_cases c39 : a0_0 > 0
               · rw [if_pos c39] at H
                 have c39b0 : decide (0 < a0_0) = true := decide_eq_true c39
                 clear c39
                 by_cases c40 : a0_0 ≤ 7
                 · rw [if_pos c40] at H
                   have c40b0 : decide (a0_0 ≤ 7) = true := decide_eq_true c40
                   clear c40
                   obtain ⟨y631, hy631⟩ : ∃ y_ : List ByteArray, y_ = (([(⟨#[]⟩ : ByteArray), (⟨#[116, 114, 97, 112]⟩ : ByteArray), (⟨#[117, 110, 100, 101, 102, 105, 110, 101, 100]⟩ : ByteArray), (⟨#[115, 116, 101, 112, 115]⟩ : ByteArray), (⟨#[100, 101, 112, 116, 104]⟩ : ByteArray), (⟨#[112, 114, 105, 110, 116, 115]⟩ : ByteArray), (⟨#[109, 105, 115, 115, 105, 110, 103]⟩ : ByteArray), (⟨#[98, 97, 100]⟩ : ByteArray)] : List ByteArray)) := ⟨_, rfl⟩
                   replace H : (if 0 ≤ a0_0 then (if a0_0 < (y631.length : Int) then (if (strOfNums x3_1).size + (rdOf ByteArray.empty y631 a0_0).size ≤ 9223372036854775807 then (if ((strOfNums x3_1) ++ (rdOf ByteArray.empty y631 a0_0)).size + 1 ≤ 9223372036854775807 then (some (((strOfNums x3_1) ++ (rdOf ByteArray.empty y631 a0_0)) ++ (⟨#[10]⟩ : ByteArray))) else (none)) else (none)) else (none)) else (none)) = some r := by first | (rw [hy631]; with_reducible exact H) | (have H2_ := (Option.bind_some _ _).symm.trans H; rw [hy631]; with_reducible exact H2_) | (have H2_ := (Option.bind_some _ _).symm.trans H; with_reducible exact H2_) | with_reducible exact H | (rw [hy631]; exact H) | exact H
                   have Ny631 := Aside0.mk hy631
                   clear hy631
                   by_cases c41 : 0 ≤ a0_0
                   · rw [if_pos c41] at H
                     have c41b0 : decide (0 ≤ a0_0) = true := decide_eq_true c41
                     clear c41
                     by_cases c42 : a0_0 < (y631.length : Int)
                     · rw [if_pos c42] at H
                       have c42b0 : decide (a0_0 < (y631.length : Int)) = true := decide_eq_true c42
                       clear c42
                       by_cases c43 : (strOfNums x3_1).size + (rdOf ByteArray.empty y631 a0_0).size ≤ 9223372036854775807
                       · rw [if_pos c43] at H
                         have c43b0 := eq_true c43
                         have c43b1 : decide ((strOfNums x3_1).size + (rdOf ByteArray.empty y631 a0_0).size ≤ 9223372036854775807) = true := decide_eq_true c43
                         try have c43b2 : (9223372036854775807 < (strOfNums x3_1).size + (rdOf ByteArray.empty y631 a0_0).size) = False := eq_false (Nat.not_lt.2 c43)
                         by_cases c44 : ((strOfNums x3_1) ++ (rdOf ByteArray.empty y631 a0_0)).size + 1 ≤ 9223372036854775807
                         · rw [if_pos c44] at H
                           have c44b0 := eq_true c44
                           have c44b1 : decide (((strOfNums x3_1) ++ (rdOf ByteArray.empty y631 a0_0)).size + 1 ≤ 9223372036854775807) = true := decide_eq_true c44
                           have c44b7 : (strOfNums x3_1).size + (rdOf ByteArray.empty y631 a0_0).size + 1 ≤ 9223372036854775807 := by have q_ := c44; simp only [ByteArray.size_append] at q_; exact q_
                           have c44b8 := eq_true c44b7
                           try have c44b9 : (9223372036854775807 < (strOfNums x3_1).size + (rdOf ByteArray.empty y631 a0_0).size + 1) = False := eq_false (Nat.not_lt.2 c44b7)
                           clear c44b7
                           try have c44b2 : (9223372036854775807 < ((strOfNums x3_1) ++ (rdOf ByteArray.empty y631 a0_0)).size + 1) = False := eq_false (Nat.not_lt.2 c44)
                           obtain rfl := Option.some.inj H
                           have hcz45_0 : wc.cell? ⟨gb621, 0, none⟩ = some (.int .i64 a0_0) := (blk_cell BK621.out 0).trans rfl
                           have hcz45_1 : wc.cell? ⟨gb621, 1, none⟩ = some (.bool a0_1) := (blk_cell BK621.out 1).trans rfl
                           have hcz45_2 : wc.cell? ⟨gb621, 2, none⟩ = some (.int .i64 a0_2) := (blk_cell BK621.out 2).trans rfl
                           have hcz45_3 : wc.cell? ⟨gb621, 3, none⟩ = some (.int .u64 a0_3) := (blk_cell BK621.out 3).trans rfl
                           have hcz45_4 : wc.cell? ⟨gb621, 4, none⟩ = some (.slice A0_4 l0_4.length c0_4) := (blk_cell BK621.out 4).trans rfl
                           have hcz45_5 : wc.cell? ⟨gb621, 5, none⟩ = some (.int .i64 a0_5) := (blk_cell BK621.out 5).trans rfl
                           have hfz45_0 := blk_frozen BK621.out 0
                           have hfz45_1 := blk_frozen BK621.out 1
                           have hfz45_2 := blk_frozen BK621.out 2
                           have hfz45_3 := blk_frozen BK621.out 3
                           have hfz45_4 := blk_frozen BK621.out 4
                           have hfz45_5 := blk_frozen BK621.out 5
                           try go_wp2
                           have pi634 : (0 ≤ (a0_0 : Int)) = True := eq_true (of_decide_eq_true (by first | (with_reducible assumption) | assumption))
                           have qi634 : (a0_0 < (y631.length : Int)) = True := eq_true (of_decide_eq_true (by first | (with_reducible assumption) | assumption))
                           have n0_ := Aside0.mk (Kd.R_drew HO_3.out)
                           have n1_ := Aside0.mk (blk_drew BK621.out)
                           have n2_ := Aside0.mk (below_drew1 HB.out)
                           clear HO_3
                           clear BK621
                           clear HB
                           have HO_3 := n0_
                           have BK621 := n1_
                           have HB := n2_
                           clear n0_ n1_ n2_
                           refine start_ (n := 10) (S := fun w' => w'.cell? ⟨gb621, 0, none⟩ = some (.int .i64 a0_0) ∧ w'.cell? ⟨gb621, 1, none⟩ = some (.bool a0_1) ∧ w'.cell? ⟨gb621, 2, none⟩ = some (.int .i64 a0_2) ∧ w'.cell? ⟨gb621, 3, none⟩ = some (.int .u64 a0_3) ∧ w'.cell? ⟨gb621, 4, none⟩ = some (.slice A0_4 l0_4.length c0_4) ∧ w'.cell? ⟨gb621, 5, none⟩ = some (.int .i64 a0_5)) (ds := []) #[false, false, false, false, false, false, false, false, false, false] (by kernel_rfl) rfl rfl ⟨(blk_cell BK621.out 0).trans rfl, (blk_cell BK621.out 1).trans rfl, (blk_cell BK621.out 2).trans rfl, (blk_cell BK621.out 3).trans rfl, (blk_cell BK621.out 4).trans rfl, (blk_cell BK621.out 5).trans rfl⟩ (fun hHeld => ?_); refine with_tabW spec_FormatOutcome.tab13 spec_FormatOutcome.bits13 (fun HT_ HW_ => ?_)
                           generalize wc.drew = w46 at HO_3 BK621 HB hHeld ⊢
                           refine pure_ (i := 0) (N := some 70) (v := ?_) (a' := ?_) #[true, false, false, false, false, false, false, false, false, false] rfl rfl (any_of HT_.out (by kernel_rfl)) (fun _ _ _ h => h) (Or.inl ⟨by rfl, ?_⟩) ?_ ?_
                           rotate_left
                           · intro w'
                             go_simp
                             with_reducible rfl
                           rotate_left
                           · simp only [Act.put, List.setIfInBounds_toArray, List.set_cons_zero, List.set_cons_succ, i64_w, i32_w]
                             rfl
                           refine pure_ (i := 3) (N := some 73) (v := ?_) (a' := ?_) #[true, false, false, true, false, false, false, false, false, false] rfl rfl (any_of HT_.out (by kernel_rfl)) (fun _ _ _ h => h) (Or.inl ⟨by rfl, ?_⟩) ?_ ?_
                           rotate_left
                           · intro w'
                             go_simp
                             with_reducible rfl
                           rotate_left
                           · simp only [Act.put, List.setIfInBounds_toArray, List.set_cons_zero, List.set_cons_succ, i64_w, i32_w]
                             rfl
                           refine take_ (i := 4) (N := some 74) (v := ?_) (a' := ?_) #[true, false, false, true, true, false, false, false, false, false] rfl rfl (take_ofW HT_.out HW_.out (by kernel_rfl)) (fun _ _ _ h => h) (Or.inl ⟨by rfl, ?_⟩) hHeld ?_ ?_
                           rotate_left
                           · rintro w' ⟨s0, s1, s2, s3, s4, s5⟩
                             go_simp
                             with_reducible rfl
                           rotate_left
                           · simp only [Act.put, List.setIfInBounds_toArray, List.set_cons_zero, List.set_cons_succ, i64_w, i32_w]
                             rfl
                           refine join_ (σ := Value × Addr) 3 #[true, true, true, true, true, true, true, false, false, false] (fun s_ => [(71, .string (strOfNums x3_1)), (72, s_.1), (76, .string (rdOf ByteArray.empty y631 a0_0)), (75, .pointer (some (s_.2.add (a0_0).toNat)))]) (fun s_ w' => (w'.cell? ⟨gb621, 0, none⟩ = some (.int .i64 a0_0) ∧ w'.cell? ⟨gb621, 1, none⟩ = some (.bool a0_1) ∧ w'.cell? ⟨gb621, 2, none⟩ = some (.int .i64 a0_2) ∧ w'.cell? ⟨gb621, 3, none⟩ = some (.int .u64 a0_3) ∧ w'.cell? ⟨gb621, 4, none⟩ = some (.slice A0_4 l0_4.length c0_4) ∧ w'.cell? ⟨gb621, 5, none⟩ = some (.int .i64 a0_5)) ∧ (Kd.R Kd.string 9 w' w.heap.size (fun _ => True) s_.1 y631) ∧ (Kd.R (Kd.int .u8) 5 w' w.heap.size (fun _ => True) u3 x3_1) ∧ (∃ c_, (s_.1 : Value) = .slice (some s_.2) y631.length c_) ∧ (w'.heap[gb621]? = some (.cells #[.int .i64 a0_0, .bool a0_1, .int .i64 a0_2, .int .u64 a0_3, .slice A0_4 l0_4.length c0_4, .int .i64 a0_5] 32 (0, 0))) ∧ (Below w.heap.size w w')) ?_ ?_
                           rotate_left
                           · intro hCont
                             refine two_ (i := 1) (j := 2) (Ni := some 71) (Nj := some 72) #[true, true, false, true, true, false, false, false, false, false] #[true, false, true, true, true, false, false, false, false, false] rfl rfl rfl rfl (two_of HT_.out (by kernel_rfl)) (by decide) (by decide) (fun K hK => ?_) (fun K hK => ?_)
                             · skip
                               have hcv47 := own_string (P := Tryd.prog) Tryd.underlying41 Tryd.underlying5 Tryd.underlying9 (Kd.own_of_R HO_3.out)
                               refine value_ (w1 := ?_) (v := ?_) (by rfl) rfl ?_ ?_
                               rotate_left 2
                               · go_simp
                                 constructor
                                 · rfl
                                 · rfl
                               clear hcv47
                               refine hK.out _ _ ⟨(blk_cell BK621.out 0).trans rfl, (blk_cell BK621.out 1).trans rfl, (blk_cell BK621.out 2).trans rfl, (blk_cell BK621.out 3).trans rfl, (blk_cell BK621.out 4).trans rfl, (blk_cell BK621.out 5).trans rfl⟩ (fun hHeld => ?_)
                               clear hK K
                               refine norm_ (a' := ?_) ?_ ?_
                               rotate_left
                               · show Act.put _ (some 71) _ = _
                                 simp only [Act.put, List.setIfInBounds_toArray, List.set_cons_zero, List.set_cons_succ, i64_w, i32_w]
                                 rfl
                               refine one_ (i := 2) (N := some 72) #[true, true, true, true, true, false, false, false, false, false] rfl rfl (one_of HT_.out (by kernel_rfl)) (by decide) (fun K hK => ?_)
                               refine Kd.R_lit_step Kd.string _ 9 ?hg (N := 72) ?hd (xs := ([(⟨#[]⟩ : ByteArray), (⟨#[116, 114, 97, 112]⟩ : ByteArray), (⟨#[117, 110, 100, 101, 102, 105, 110, 101, 100]⟩ : ByteArray), (⟨#[115, 116, 101, 112, 115]⟩ : ByteArray), (⟨#[100, 101, 112, 116, 104]⟩ : ByteArray), (⟨#[112, 114, 105, 110, 116, 115]⟩ : ByteArray), (⟨#[109, 105, 115, 115, 105, 110, 103]⟩ : ByteArray), (⟨#[98, 97, 100]⟩ : ByteArray)] : List ByteArray)) (inner := [.string (⟨#[]⟩ : ByteArray), .string (⟨#[116, 114, 97, 112]⟩ : ByteArray), .string (⟨#[117, 110, 100, 101, 102, 105, 110, 101, 100]⟩ : ByteArray), .string (⟨#[115, 116, 101, 112, 115]⟩ : ByteArray), .string (⟨#[100, 101, 112, 116, 104]⟩ : ByteArray), .string (⟨#[112, 114, 105, 110, 116, 115]⟩ : ByteArray), .string (⟨#[109, 105, 115, 115, 105, 110, 103]⟩ : ByteArray), .string (⟨#[98, 97, 100]⟩ : ByteArray)]) (ok := fun _ => True) (okp := fun _ => True) ?hr ?hp (fun _ hk => hk) trivial (Below.refl _ _) (Nat.le_refl _) (by simp) ?_; (case hd => rfl); (case hg => rfl); (case hr => first | (go_simp; done) | (go_simp; rfl)); (case hp => exact (Reps.one (show Kd.M Kd.string _ _ _ (⟨#[]⟩ : ByteArray) [.string (⟨#[]⟩ : ByteArray)] from rfl) (Reps.one (show Kd.M Kd.string _ _ _ (⟨#[116, 114, 97, 112]⟩ : ByteArray) [.string (⟨#[116, 114, 97, 112]⟩ : ByteArray)] from rfl) (Reps.one (show Kd.M Kd.string _ _ _ (⟨#[117, 110, 100, 101, 102, 105, 110, 101, 100]⟩ : ByteArray) [.string (⟨#[117, 110, 100, 101, 102, 105, 110, 101, 100]⟩ : ByteArray)] from rfl) (Reps.one (show Kd.M Kd.string _ _ _ (⟨#[115, 116, 101, 112, 115]⟩ : ByteArray) [.string (⟨#[115, 116, 101, 112, 115]⟩ : ByteArray)] from rfl) (Reps.one (show Kd.M Kd.string _ _ _ (⟨#[100, 101, 112, 116, 104]⟩ : ByteArray) [.string (⟨#[100, 101, 112, 116, 104]⟩ : ByteArray)] from rfl) (Reps.one (show Kd.M Kd.string _ _ _ (⟨#[112, 114, 105, 110, 116, 115]⟩ : ByteArray) [.string (⟨#[112, 114, 105, 110, 116, 115]⟩ : ByteArray)] from rfl) (Reps.one (show Kd.M Kd.string _ _ _ (⟨#[109, 105, 115, 115, 105, 110, 103]⟩ : ByteArray) [.string (⟨#[109, 105, 115, 115, 105, 110, 103]⟩ : ByteArray)] from rfl) (Reps.one (show Kd.M Kd.string _ _ _ (⟨#[98, 97, 100]⟩ : ByteArray) [.string (⟨#[98, 97, 100]⟩ : ByteArray)] from rfl) (Reps.none _ _))))))))))
                               intro v632 w48 ho49 hb hg_ hnew_
                               clear hg_ hnew_
                               (first | rw [← Ny631.out] at ho49 | (simp only [Int.reduceToNat] at ho49; rw [← Ny631.out] at ho49))
                               have n0_ := Aside0.mk (Kd.R_below (by (with_reducible repeat (first | apply Kd.R_alloc | apply Kd.R_drewN | apply Kd.R_drew)); exact HO_3.out) hb)
                               have n1_ := Aside0.mk (Kd.R_lower ho49 (below_size (by repeat (first | (with_reducible first | exact HB.out | apply below_alloc | apply pw_below_drewN | apply below_drew1 | refine below_set ?_ GE621.out) | exact HB.out))))
                               have n2_ := Aside0.mk (blk_below (g := gb621) (o := .cells #[.int .i64 a0_0, .bool a0_1, .int .i64 a0_2, .int .u64 a0_3, .slice A0_4 l0_4.length c0_4, .int .i64 a0_5] 32 (0, 0)) (by (with_reducible repeat (first | refine blk_drewN ?_ _ | refine blk_drew ?_ | refine blk_alloc ?_ _)); exact BK621.out) hb)
                               have n3_ := Aside0.mk (below_step (by repeat (first | (with_reducible first | exact HB.out | apply below_alloc | apply pw_below_drewN | apply below_drew1 | refine below_set ?_ GE621.out) | exact HB.out)) hb)
                               clear HO_3
                               clear BK621
                               clear HB
                               have HO_3 := n0_
                               have HO633 := n1_
                               have BK621 := n2_
                               have HB := n3_
                               clear n0_ n1_ n2_ n3_
                               clear hb ho49
                               obtain ⟨Ao50, co50, eo50⟩ := Kd.R_slice HO633.out
                               subst eo50
                               obtain ⟨ado50, fo50, _⟩ := Kd.at_string (Kd.R_reads' HO633.out).2.2 0 (by decide) (by rw [Ny631.out]; simp)
                               cases fo50
                               refine hK.out _ _ ⟨(blk_cell BK621.out 0).trans rfl, (blk_cell BK621.out 1).trans rfl, (blk_cell BK621.out 2).trans rfl, (blk_cell BK621.out 3).trans rfl, (blk_cell BK621.out 4).trans rfl, (blk_cell BK621.out 5).trans rfl⟩ (fun hHeld => ?_)
                               clear hK K
                               refine norm_ (a' := ?_) ?_ ?_
                               rotate_left
                               · show Act.put _ (some 72) _ = _
                                 simp only [Act.put, List.setIfInBounds_toArray, List.set_cons_zero, List.set_cons_succ, i64_w, i32_w]
                                 rfl
                               refine pure_ (i := 5) (N := some 75) (v := ?_) (a' := ?_) #[true, true, true, true, true, true, false, false, false, false] rfl rfl (any_of HT_.out (by kernel_rfl)) (fun _ _ _ h => h) (Or.inl ⟨by rfl, ?_⟩) ?_ ?_
                               rotate_left
                               · intro w'
                                 go_simp
                                 with_reducible rfl
                               rotate_left
                               · simp only [Act.put, List.setIfInBounds_toArray, List.set_cons_zero, List.set_cons_succ, i64_w, i32_w]
                                 rfl
                               refine one_ (i := 6) (N := some 76) #[true, true, true, true, true, true, true, false, false, false] rfl rfl (one_of HT_.out (by kernel_rfl)) (by decide) (fun K hK => ?_)
                               (have p634 : 0 ≤ (a0_0 : Int) := of_decide_eq_true (by first | (with_reducible assumption) | assumption); have q634 : a0_0 < (y631.length : Int) := of_decide_eq_true (by first | (with_reducible assumption) | assumption); obtain ⟨ad634, e634, hx634_0⟩ := Kd.at_string (Kd.R_reads' HO633.out).2.2 a0_0 p634 q634; obtain rfl : ado50 = ad634 := (by injection e634))
                               refine value_ (w1 := ?_) (v := ?_) (by rfl) rfl ?_ ?_
                               rotate_left 2
                               · go_simp
                                 constructor
                                 · rfl
                                 · rfl
                               clear hx634_0
                               refine hK.out _ _ ⟨(blk_cell BK621.out 0).trans rfl, (blk_cell BK621.out 1).trans rfl, (blk_cell BK621.out 2).trans rfl, (blk_cell BK621.out 3).trans rfl, (blk_cell BK621.out 4).trans rfl, (blk_cell BK621.out 5).trans rfl⟩ (fun hHeld => ?_)
                               clear hK K
                               refine norm_ (a' := ?_) ?_ ?_
                               rotate_left
                               · show Act.put _ (some 76) _ = _
                                 simp only [Act.put, List.setIfInBounds_toArray, List.set_cons_zero, List.set_cons_succ, i64_w, i32_w]
                                 rfl
                               exact norm_ (by simp only [putAll, Act.put, List.setIfInBounds_toArray, List.set_cons_zero, List.set_cons_succ]) (hCont (.slice (some ado50) y631.length co50, ado50) _ ⟨hHeld, (by (with_reducible repeat (first | apply Kd.R_alloc | apply Kd.R_drewN | apply Kd.R_drew)); exact HO633.out), (by (with_reducible repeat (first | apply Kd.R_alloc | apply Kd.R_drewN | apply Kd.R_drew)); exact HO_3.out), ⟨_, rfl⟩, (by (with_reducible repeat (first | refine blk_drewN ?_ _ | refine blk_drew ?_ | refine blk_alloc ?_ _)); exact BK621.out), (by repeat (first | (with_reducible first | exact HB.out | apply below_alloc | apply pw_below_drewN | apply below_drew1 | refine below_set ?_ GE621.out) | exact HB.out))⟩)
                             · skip
                               refine Kd.R_lit_step Kd.string _ 9 ?hg (N := 72) ?hd (xs := ([(⟨#[]⟩ : ByteArray), (⟨#[116, 114, 97, 112]⟩ : ByteArray), (⟨#[117, 110, 100, 101, 102, 105, 110, 101, 100]⟩ : ByteArray), (⟨#[115, 116, 101, 112, 115]⟩ : ByteArray), (⟨#[100, 101, 112, 116, 104]⟩ : ByteArray), (⟨#[112, 114, 105, 110, 116, 115]⟩ : ByteArray), (⟨#[109, 105, 115, 115, 105, 110, 103]⟩ : ByteArray), (⟨#[98, 97, 100]⟩ : ByteArray)] : List ByteArray)) (inner := [.string (⟨#[]⟩ : ByteArray), .string (⟨#[116, 114, 97, 112]⟩ : ByteArray), .string (⟨#[117, 110, 100, 101, 102, 105, 110, 101, 100]⟩ : ByteArray), .string (⟨#[115, 116, 101, 112, 115]⟩ : ByteArray), .string (⟨#[100, 101, 112, 116, 104]⟩ : ByteArray), .string (⟨#[112, 114, 105, 110, 116, 115]⟩ : ByteArray), .string (⟨#[109, 105, 115, 115, 105, 110, 103]⟩ : ByteArray), .string (⟨#[98, 97, 100]⟩ : ByteArray)]) (ok := fun _ => True) (okp := fun _ => True) ?hr ?hp (fun _ hk => hk) trivial (Below.refl _ _) (Nat.le_refl _) (by simp) ?_; (case hd => rfl); (case hg => rfl); (case hr => first | (go_simp; done) | (go_simp; rfl)); (case hp => exact (Reps.one (show Kd.M Kd.string _ _ _ (⟨#[]⟩ : ByteArray) [.string (⟨#[]⟩ : ByteArray)] from rfl) (Reps.one (show Kd.M Kd.string _ _ _ (⟨#[116, 114, 97, 112]⟩ : ByteArray) [.string (⟨#[116, 114, 97, 112]⟩ : ByteArray)] from rfl) (Reps.one (show Kd.M Kd.string _ _ _ (⟨#[117, 110, 100, 101, 102, 105, 110, 101, 100]⟩ : ByteArray) [.string (⟨#[117, 110, 100, 101, 102, 105, 110, 101, 100]⟩ : ByteArray)] from rfl) (Reps.one (show Kd.M Kd.string _ _ _ (⟨#[115, 116, 101, 112, 115]⟩ : ByteArray) [.string (⟨#[115, 116, 101, 112, 115]⟩ : ByteArray)] from rfl) (Reps.one (show Kd.M Kd.string _ _ _ (⟨#[100, 101, 112, 116, 104]⟩ : ByteArray) [.string (⟨#[100, 101, 112, 116, 104]⟩ : ByteArray)] from rfl) (Reps.one (show Kd.M Kd.string _ _ _ (⟨#[112, 114, 105, 110, 116, 115]⟩ : ByteArray) [.string (⟨#[112, 114, 105, 110, 116, 115]⟩ : ByteArray)] from rfl) (Reps.one (show Kd.M Kd.string _ _ _ (⟨#[109, 105, 115, 115, 105, 110, 103]⟩ : ByteArray) [.string (⟨#[109, 105, 115, 115, 105, 110, 103]⟩ : ByteArray)] from rfl) (Reps.one (show Kd.M Kd.string _ _ _ (⟨#[98, 97, 100]⟩ : ByteArray) [.string (⟨#[98, 97, 100]⟩ : ByteArray)] from rfl) (Reps.none _ _))))))))))
                               intro v632 w47 ho48 hb hg_ hnew_
                               clear hg_ hnew_
                               (first | rw [← Ny631.out] at ho48 | (simp only [Int.reduceToNat] at ho48; rw [← Ny631.out] at ho48))
                               have n0_ := Aside0.mk (Kd.R_below (by (with_reducible repeat (first | apply Kd.R_alloc | apply Kd.R_drewN | apply Kd.R_drew)); exact HO_3.out) hb)
                               have n1_ := Aside0.mk (Kd.R_lower ho48 (below_size (by repeat (first | (with_reducible first | exact HB.out | apply below_alloc | apply pw_below_drewN | apply below_drew1 | refine below_set ?_ GE621.out) | exact HB.out))))
                               have n2_ := Aside0.mk (blk_below (g := gb621) (o := .cells #[.int .i64 a0_0, .bool a0_1, .int .i64 a0_2, .int .u64 a0_3, .slice A0_4 l0_4.length c0_4, .int .i64 a0_5] 32 (0, 0)) (by (with_reducible repeat (first | refine blk_drewN ?_ _ | refine blk_drew ?_ | refine blk_alloc ?_ _)); exact BK621.out) hb)
                               have n3_ := Aside0.mk (below_step (by repeat (first | (with_reducible first | exact HB.out | apply below_alloc | apply pw_below_drewN | apply below_drew1 | refine below_set ?_ GE621.out) | exact HB.out)) hb)
                               clear HO_3
                               clear BK621
                               clear HB
                               have HO_3 := n0_
                               have HO633 := n1_
                               have BK621 := n2_
                               have HB := n3_
                               clear n0_ n1_ n2_ n3_
                               clear hb ho48
                               obtain ⟨Ao49, co49, eo49⟩ := Kd.R_slice HO633.out
                               subst eo49
                               obtain ⟨ado49, fo49, _⟩ := Kd.at_string (Kd.R_reads' HO633.out).2.2 0 (by decide) (by rw [Ny631.out]; simp)
                               cases fo49
                               refine hK.out _ _ ⟨(blk_cell BK621.out 0).trans rfl, (blk_cell BK621.out 1).trans rfl, (blk_cell BK621.out 2).trans rfl, (blk_cell BK621.out 3).trans rfl, (blk_cell BK621.out 4).trans rfl, (blk_cell BK621.out 5).trans rfl⟩ (fun hHeld => ?_)
                               clear hK K
                               refine norm_ (a' := ?_) ?_ ?_
                               rotate_left
                               · show Act.put _ (some 72) _ = _
                                 simp only [Act.put, List.setIfInBounds_toArray, List.set_cons_zero, List.set_cons_succ, i64_w, i32_w]
                                 rfl
                               refine pure_ (i := 5) (N := some 75) (v := ?_) (a' := ?_) #[true, false, true, true, true, true, false, false, false, false] rfl rfl (any_of HT_.out (by kernel_rfl)) (fun _ _ _ h => h) (Or.inl ⟨by rfl, ?_⟩) ?_ ?_
                               rotate_left
                               · intro w'
                                 go_simp
                                 with_reducible rfl
                               rotate_left
                               · simp only [Act.put, List.setIfInBounds_toArray, List.set_cons_zero, List.set_cons_succ, i64_w, i32_w]
                                 rfl
                               refine two_ (i := 1) (j := 6) (Ni := some 71) (Nj := some 76) #[true, true, true, true, true, true, false, false, false, false] #[true, false, true, true, true, true, true, false, false, false] rfl rfl rfl rfl (two_of HT_.out (by kernel_rfl)) (by decide) (by decide) (fun K hK => ?_) (fun K hK => ?_)
                               · skip
                                 have hcv50 := own_string (P := Tryd.prog) Tryd.underlying41 Tryd.underlying5 Tryd.underlying9 (Kd.own_of_R HO_3.out)
                                 refine value_ (w1 := ?_) (v := ?_) (by rfl) rfl ?_ ?_
                                 rotate_left 2
                                 · go_simp
                                   constructor
                                   · rfl
                                   · rfl
                                 clear hcv50
                                 refine hK.out _ _ ⟨(blk_cell BK621.out 0).trans rfl, (blk_cell BK621.out 1).trans rfl, (blk_cell BK621.out 2).trans rfl, (blk_cell BK621.out 3).trans rfl, (blk_cell BK621.out 4).trans rfl, (blk_cell BK621.out 5).trans rfl⟩ (fun hHeld => ?_)
                                 clear hK K
                                 refine norm_ (a' := ?_) ?_ ?_
                                 rotate_left
                                 · show Act.put _ (some 71) _ = _
                                   simp only [Act.put, List.setIfInBounds_toArray, List.set_cons_zero, List.set_cons_succ, i64_w, i32_w]
                                   rfl
                                 refine one_ (i := 6) (N := some 76) #[true, true, true, true, true, true, true, false, false, false] rfl rfl (one_of HT_.out (by kernel_rfl)) (by decide) (fun K hK => ?_)
                                 (have p634 : 0 ≤ (a0_0 : Int) := of_decide_eq_true (by first | (with_reducible assumption) | assumption); have q634 : a0_0 < (y631.length : Int) := of_decide_eq_true (by first | (with_reducible assumption) | assumption); obtain ⟨ad634, e634, hx634_0⟩ := Kd.at_string (Kd.R_reads' HO633.out).2.2 a0_0 p634 q634; obtain rfl : ado49 = ad634 := (by injection e634))
                                 refine value_ (w1 := ?_) (v := ?_) (by rfl) rfl ?_ ?_
                                 rotate_left 2
                                 · go_simp
                                   constructor
                                   · rfl
                                   · rfl
                                 clear hx634_0
                                 refine hK.out _ _ ⟨(blk_cell BK621.out 0).trans rfl, (blk_cell BK621.out 1).trans rfl, (blk_cell BK621.out 2).trans rfl, (blk_cell BK621.out 3).trans rfl, (blk_cell BK621.out 4).trans rfl, (blk_cell BK621.out 5).trans rfl⟩ (fun hHeld => ?_)
                                 clear hK K
                                 refine norm_ (a' := ?_) ?_ ?_
                                 rotate_left
                                 · show Act.put _ (some 76) _ = _
                                   simp only [Act.put, List.setIfInBounds_toArray, List.set_cons_zero, List.set_cons_succ, i64_w, i32_w]
                                   rfl
                                 exact norm_ (by simp only [putAll, Act.put, List.setIfInBounds_toArray, List.set_cons_zero, List.set_cons_succ]) (hCont (.slice (some ado49) y631.length co49, ado49) _ ⟨hHeld, (by (with_reducible repeat (first | apply Kd.R_alloc | apply Kd.R_drewN | apply Kd.R_drew)); exact HO633.out), (by (with_reducible repeat (first | apply Kd.R_alloc | apply Kd.R_drewN | apply Kd.R_drew)); exact HO_3.out), ⟨_, rfl⟩, (by (with_reducible repeat (first | refine blk_drewN ?_ _ | refine blk_drew ?_ | refine blk_alloc ?_ _)); exact BK621.out), (by repeat (first | (with_reducible first | exact HB.out | apply below_alloc | apply pw_below_drewN | apply below_drew1 | refine below_set ?_ GE621.out) | exact HB.out))⟩)
                               · skip
                                 (have p634 : 0 ≤ (a0_0 : Int) := of_decide_eq_true (by first | (with_reducible assumption) | assumption); have q634 : a0_0 < (y631.length : Int) := of_decide_eq_true (by first | (with_reducible assumption) | assumption); obtain ⟨ad634, e634, hx634_0⟩ := Kd.at_string (Kd.R_reads' HO633.out).2.2 a0_0 p634 q634; obtain rfl : ado49 = ad634 := (by injection e634))
                                 refine value_ (w1 := ?_) (v := ?_) (by rfl) rfl ?_ ?_
                                 rotate_left 2
                                 · go_simp
                                   constructor
                                   · rfl
                                   · rfl
                                 clear hx634_0
                                 refine hK.out _ _ ⟨(blk_cell BK621.out 0).trans rfl, (blk_cell BK621.out 1).trans rfl, (blk_cell BK621.out 2).trans rfl, (blk_cell BK621.out 3).trans rfl, (blk_cell BK621.out 4).trans rfl, (blk_cell BK621.out 5).trans rfl⟩ (fun hHeld => ?_)
                                 clear hK K
                                 refine norm_ (a' := ?_) ?_ ?_
                                 rotate_left
                                 · show Act.put _ (some 76) _ = _
                                   simp only [Act.put, List.setIfInBounds_toArray, List.set_cons_zero, List.set_cons_succ, i64_w, i32_w]
                                   rfl
                                 refine one_ (i := 1) (N := some 71) #[true, true, true, true, true, true, true, false, false, false] rfl rfl (one_of HT_.out (by kernel_rfl)) (by decide) (fun K hK => ?_)
                                 have hcv50 := own_string (P := Tryd.prog) Tryd.underlying41 Tryd.underlying5 Tryd.underlying9 (Kd.own_of_R HO_3.out)
                                 refine value_ (w1 := ?_) (v := ?_) (by rfl) rfl ?_ ?_
                                 rotate_left 2
                                 · go_simp
                                   constructor
                                   · rfl
                                   · rfl
                                 clear hcv50
                                 refine hK.out _ _ ⟨(blk_cell BK621.out 0).trans rfl, (blk_cell BK621.out 1).trans rfl, (blk_cell BK621.out 2).trans rfl, (blk_cell BK621.out 3).trans rfl, (blk_cell BK621.out 4).trans rfl, (blk_cell BK621.out 5).trans rfl⟩ (fun hHeld => ?_)
                                 clear hK K
                                 refine norm_ (a' := ?_) ?_ ?_
                                 rotate_left
                                 · show Act.put _ (some 71) _ = _
                                   simp only [Act.put, List.setIfInBounds_toArray, List.set_cons_zero, List.set_cons_succ, i64_w, i32_w]
                                   rfl
                                 exact norm_ (by simp only [putAll, Act.put, List.setIfInBounds_toArray, List.set_cons_zero, List.set_cons_succ]) (hCont (.slice (some ado49) y631.length co49, ado49) _ ⟨hHeld, (by (with_reducible repeat (first | apply Kd.R_alloc | apply Kd.R_drewN | apply Kd.R_drew)); exact HO633.out), (by (with_reducible repeat (first | apply Kd.R_alloc | apply Kd.R_drewN | apply Kd.R_drew)); exact HO_3.out), ⟨_, rfl⟩, (by (with_reducible repeat (first | refine blk_drewN ?_ _ | refine blk_drew ?_ | refine blk_alloc ?_ _)); exact BK621.out), (by repeat (first | (with_reducible first | exact HB.out | apply below_alloc | apply pw_below_drewN | apply below_drew1 | refine below_set ?_ GE621.out) | exact HB.out))⟩)
                           rintro ⟨v632, adz_v632⟩ w51 ⟨hS_, h0_, h1_, h2_, h3_, h4_⟩
                           have n0_ : Aside0 (Kd.R Kd.string 9 w51 w.heap.size (fun _ => True) v632 y631) := ⟨h0_⟩
                           have n1_ : Aside0 (Kd.R (Kd.int .u8) 5 w51 w.heap.size (fun _ => True) u3 x3_1) := ⟨h1_⟩
                           have n2_ : Aside0 (∃ c_, (v632 : Value) = .slice (some adz_v632) y631.length c_) := ⟨h2_⟩
                           have n3_ : Aside0 (w51.heap[gb621]? = some (.cells #[.int .i64 a0_0, .bool a0_1, .int .i64 a0_2, .int .u64 a0_3, .slice A0_4 l0_4.length c0_4, .int .i64 a0_5] 32 (0, 0))) := ⟨h3_⟩
                           have n4_ : Aside0 (Below w.heap.size w w51) := ⟨h4_⟩
                           clear HO_3
                           clear BK621
                           clear HB
                           clear h0_ h1_ h2_ h3_ h4_
                           have HO633 := n0_
                           have HO_3 := n1_
                           have HA_HO633 := n2_
                           have BK621 := n3_
                           have HB := n4_
                           clear n0_ n1_ n2_ n3_ n4_
                           have hHeld : w51.cell? ⟨gb621, 0, none⟩ = some (.int .i64 a0_0) ∧ w51.cell? ⟨gb621, 1, none⟩ = some (.bool a0_1) ∧ w51.cell? ⟨gb621, 2, none⟩ = some (.int .i64 a0_2) ∧ w51.cell? ⟨gb621, 3, none⟩ = some (.int .u64 a0_3) ∧ w51.cell? ⟨gb621, 4, none⟩ = some (.slice A0_4 l0_4.length c0_4) ∧ w51.cell? ⟨gb621, 5, none⟩ = some (.int .i64 a0_5) := hS_
                           obtain ⟨co52, eo52⟩ := HA_HO633.out
                           clear HA_HO633
                           subst eo52
                           refine norm_ (a' := ?_) ?_ ?_
                           rotate_left
                           · simp only [putAll, Act.put, List.setIfInBounds_toArray, List.set_cons_zero, List.set_cons_succ]
                             rfl
                           refine pure_ (i := 7) (N := some 77) (v := ?_) (a' := ?_) #[true, true, true, true, true, true, true, true, false, false] rfl rfl (any_of HT_.out (by kernel_rfl)) (fun _ _ _ h => h) (Or.inl ⟨by rfl, ?_⟩) ?_ ?_
                           rotate_left
                           · intro w'
                             go_simp
                             with_reducible rfl
                           rotate_left
                           · simp only [Act.put, List.setIfInBounds_toArray, List.set_cons_zero, List.set_cons_succ, i64_w, i32_w]
                             rfl
                           refine pure_ (i := 8) (N := some 78) (v := ?_) (a' := ?_) #[true, true, true, true, true, true, true, true, true, false] rfl rfl (any_of HT_.out (by kernel_rfl)) (fun _ _ _ h => h) (Or.inl ⟨by rfl, ?_⟩) ?_ ?_
                           rotate_left
                           · intro w'
                             go_simp
                             with_reducible rfl
                           rotate_left
                           · simp only [Act.put, List.setIfInBounds_toArray, List.set_cons_zero, List.set_cons_succ, i64_w, i32_w]
                             rfl
                           refine pure_ (i := 9) (N := some 2) (v := ?_) (a' := ?_) #[true, true, true, true, true, true, true, true, true, true] rfl rfl (any_of HT_.out (by kernel_rfl)) (fun _ _ _ h => h) (Or.inl ⟨by rfl, ?_⟩) ?_ ?_
                           rotate_left
                           · intro w'
                             go_simp
                             with_reducible rfl
                           rotate_left
                           · simp only [Act.put, List.setIfInBounds_toArray, List.set_cons_zero, List.set_cons_succ, i64_w, i32_w]
                             rfl
                           refine done_ (done_of HT_.out (by kernel_rfl)) ?_
                           try go_wp2
                           go_ret
                           exact ⟨by first | rfl | (simp [errW_none, errW_some] <;> rfl) | (simp [*, errW_none, errW_some] <;> rfl), by repeat (first | (with_reducible first | exact HB.out | apply below_alloc | apply pw_below_drewN | apply below_drew1 | refine below_set ?_ GE621.out) | exact HB.out)⟩
                         · rw [if_neg c44] at H
                           exact absurd H (by simp)
                       · rw [if_neg c43] at H
                         exact absurd H (by simp)
                     · rw [if_neg c42] at H
                       exact absurd H (by simp)
                   · rw [if_neg c41] at H
                     exact absurd H (by simp)
                 · rw [if_neg c40] at H
                   have c40b0 : decide (a0_0 ≤ 7) = false := decide_eq_false c40
                   clear c40
                   by_cases c53 : (strOfNums x3_1).size + 4 ≤ 9223372036854775807
                   · rw [if_pos c53] at H
                     have c53b0 := eq_true c53
                     have c53b1 : decide ((strOfNums x3_1).size + 4 ≤ 9223372036854775807) = true := decide_eq_true c53
                     try have c53b2 : (9223372036854775807 < (strOfNums x3_1).size + 4) = False := eq_false (Nat.not_lt.2 c53)
                     obtain rfl := Option.some.inj H
                     have hcz54_0 : wc.cell? ⟨gb621, 0, none⟩ = some (.int .i64 a0_0) := (blk_cell BK621.out 0).trans rfl
                     have hcz54_1 : wc.cell? ⟨gb621, 1, none⟩ = some (.bool a0_1) := (blk_cell BK621.out 1).trans rfl
                     have hcz54_2 : wc.cell? ⟨gb621, 2, none⟩ = some (.int .i64 a0_2) := (blk_cell BK621.out 2).trans rfl
                     have hcz54_3 : wc.cell? ⟨gb621, 3, none⟩ = some (.int .u64 a0_3) := (blk_cell BK621.out 3).trans rfl
                     have hcz54_4 : wc.cell? ⟨gb621, 4, none⟩ = some (.slice A0_4 l0_4.length c0_4) := (blk_cell BK621.out 4).trans rfl
                     have hcz54_5 : wc.cell? ⟨gb621, 5, none⟩ = some (.int .i64 a0_5) := (blk_cell BK621.out 5).trans rfl
                     have hfz54_0 := blk_frozen BK621.out 0
                     have hfz54_1 := blk_frozen BK621.out 1
                     have hfz54_2 := blk_frozen BK621.out 2
                     have hfz54_3 := blk_frozen BK621.out 3
                     have hfz54_4 := blk_frozen BK621.out 4
                     have hfz54_5 := blk_frozen BK621.out 5
                     have hcv55 := own_string (P := Tryd.prog) Tryd.underlying41 Tryd.underlying5 Tryd.underlying9 (Kd.own_of_R HO_3.out)
                     go_wp2
                     go_ret
                     exact ⟨by first | rfl | (simp [errW_none, errW_some] <;> rfl) | (simp [*, errW_none, errW_some] <;> rfl), by repeat (first | (with_reducible first | exact HB.out | apply below_alloc | apply pw_below_drewN | apply below_drew1 | refine below_set ?_ GE621.out) | exact HB.out)⟩
                   · rw [if_neg c53] at H
                     exact absurd H (by simp)
               · rw [if_neg c39] at H
                 have c39b0 : decide (0 < a0_0) = false := decide_eq_false c39
                 clear c39
                 by_cases c56 : (strOfNums x3_1).size + 4 ≤ 9223372036854775807
                 · rw [if_pos c56] at H
                   have c56b0 := eq_true c56
                   have c56b1 : decide ((strOfNums x3_1).size + 4 ≤ 9223372036854775807) = true := decide_eq_true c56
                   try have c56b2 : (9223372036854775807 < (strOfNums x3_1).size + 4) = False := eq_false (Nat.not_lt.2 c56)
                   obtain rfl := Option.some.inj H
                   have hcz57_0 : wc.cell? ⟨gb621, 0, none⟩ = some (.int .i64 a0_0) := (blk_cell BK621.out 0).trans rfl
                   have hcz57_1 : wc.cell? ⟨gb621, 1, none⟩ = some (.bool a0_1) := (blk_cell BK621.out 1).trans rfl
                   have hcz57_2 : wc.cell? ⟨gb621, 2, none⟩ = some (.int .i64 a0_2) := (blk_cell BK621.out 2).trans rfl
                   have hcz57_3 : wc.cell? ⟨gb621, 3, none⟩ = some (.int .u64 a0_3) := (blk_cell BK621.out 3).trans rfl
                   have hcz57_4 : wc.cell? ⟨gb621, 4, none⟩ = some (.slice A0_4 l0_4.length c0_4) := (blk_cell BK621.out 4).trans rfl
                   have hcz57_5 : wc.cell? ⟨gb621, 5, none⟩ = some (.int .i64 a0_5) := (blk_cell BK621.out 5).trans rfl
                   have hfz57_0 := blk_frozen BK621.out 0
                   have hfz57_1 := blk_frozen BK621.out 1
                   have hfz57_2 := blk_frozen BK621.out 2
                   have hfz57_3 := blk_frozen BK621.out 3
                   have hfz57_4 := blk_frozen BK621.out 4
                   have hfz57_5 := blk_frozen BK621.out 5
                   have hcv58 := own_string (P := Tryd.prog) Tryd.underlying41 Tryd.underlying5 Tryd.underlying9 (Kd.own_of_R HO_3.out)
                   go_wp2
                   go_ret
                   exact ⟨by first | rfl | (simp [errW_none, errW_some] <;> rfl) | (simp [*, errW_none, errW_some] <;> rfl), by repeat (first | (with_reducible first | exact HB.out | apply below_alloc | apply pw_below_drewN | apply below_drew1 | refine below_set ?_ GE621.out) | exact HB.out)⟩
                 · rw [if_neg c56] at H
                   exact absurd H (by simp)

end Go.Proofs.YtkohjiajbdkcbaaDoor.All


namespace Go.Proofs.YtkohjiajbdkcbaaDoor.All
open Go.RowKit Go.Proofs.YtkohjiajbdkcbaaDoorW.PrintWords Go.Proofs.YtkohjiajbdkcbaaDoorW.PrintLast Go.Proofs.YtkohjiajbdkcbaaDoorW.PrintMore
attribute [local go_sem] max2_int min2_int max_two min_two max_three min_three max_four min_four   -- for this text's walks alone
set_option linter.unusedVariables false
set_option linter.unusedSimpArgs false

/-! ### laws_toUint64S: function 37 -/
def laws_toUint64S.l0 : Nat → List Int → List Int → Int → Option (List Int)
 | 0, _, _, _ => none
 | k + 1, x0, x3, x4 => if x4 < (x0.length : Int) then (if 0 ≤ x4 then (if x4 < (x3.length : Int) then (laws_toUint64S.l0 k x0 (x3.set (x4 : Int).toNat (rd x0 x4)) (wrap64 (x4 + 1))) else (none)) else (none)) else (some x3)
def laws_toUint64S.f (k : Nat) (l0 : List Int) : Option (List Int) := if 0 ≤ (l0.length : Int) then (if ((l0.length : Int) : Int).toNat ≤ 35184372088832 then (laws_toUint64S.l0 k l0 (List.replicate ((l0.length : Int) : Int).toNat 0) 0) else (none)) else (none)
set_option maxHeartbeats 8000000 in
set_option maxRecDepth 100000 in
theorem laws_toUint64S.calls (k : Nat) (A0 : Option Addr) (c0 : Nat) (l0 : List Int) (r : List Int) (w : World) (hr0 : Kd.C (Kd.int .u64) w A0 l0.length l0) (hc0 : l0.length ≤ c0) (h : laws_toUint64S.f k l0 = some r) :
 Calls Tryd.prog 37 #[.slice A0 l0.length c0] w fun e w' => ∃ v0_ : Value, e = .returned (v0_) ∧ Kd.R (Kd.int .u64) 22 w' w.heap.size (fun _ => True) v0_ r ∧ Below w.heap.size w w' := by
 have HR0 := Aside0.mk hr0
 have HC0 := Aside0.mk hc0
 clear hr0 hc0
 have HB := Aside0.mk (Below.refl w.heap.size w)
 have H : (if 0 ≤ (l0.length : Int) then (if ((l0.length : Int) : Int).toNat ≤ 35184372088832 then (laws_toUint64S.l0 k l0 (List.replicate ((l0.length : Int) : Int).toNat 0) 0) else (none)) else (none)) = some r := h
 clear h
 by_cases c2 : 0 ≤ (l0.length : Int)
 · rw [if_pos c2] at H
   have c2b0 := eq_true c2
   have c2b1 : decide (0 ≤ (l0.length : Int)) = true := decide_eq_true c2
   clear c2
   by_cases c3 : ((l0.length : Int) : Int).toNat ≤ 35184372088832
   · rw [if_pos c3] at H
     have c3b0 := eq_true c3
     have c3b1 : decide (((l0.length : Int) : Int).toNat ≤ 35184372088832) = true := decide_eq_true c3
     clear c3
     obtain ⟨y448, hy448⟩ : ∃ y_ : List Int, y_ = (List.replicate ((l0.length : Int) : Int).toNat 0) := ⟨_, rfl⟩
     replace H : (laws_toUint64S.l0 k l0 y448 0) = some r := by first | (rw [hy448]; with_reducible exact H) | (have H2_ := (Option.bind_some _ _).symm.trans H; rw [hy448]; with_reducible exact H2_) | (have H2_ := (Option.bind_some _ _).symm.trans H; with_reducible exact H2_) | with_reducible exact H | (rw [hy448]; exact H) | exact H
     have Ny448 := Aside0.mk hy448
     clear hy448
     have H' := Aside0.mk H
     clear H
     go_enter Tryd.func37, Tryd.ntmps37
     go_wp2_with (first | ((with_reducible refine gate_dst (N := 7) rfl ?_); refine Kd.R_make (Kd.int .u64) _ 22 rfl (N := 7) rfl 25 _ _ rfl (l0.length : Int) rfl rfl Tryd.underlying25 (.int .u64 0) 8 info22 rfl (by decide) (by omega) 0 (ok := fun _ => True) (okp := fun _ => True) rfl (fun _ hk => hk) trivial (of_decide_eq_true (by first | (with_reducible assumption) | assumption)) (Nat.le_trans (Nat.mul_le_mul_right _ (of_decide_eq_true (by first | (with_reducible assumption) | assumption) : (l0.length : Int).toNat ≤ 35184372088832)) (by omega)) (Below.refl _ _) (Nat.le_refl _) ?_; intro v449 w4 ho5 hb hg_ hnew_; clear hg_ hnew_; (first | rw [← Ny448.out] at ho5 | (simp only [Int.reduceToNat] at ho5; rw [← Ny448.out] at ho5)); have n0_ := Aside0.mk (Kd.R_lower ho5 (below_size (by repeat (first | (with_reducible first | exact HB.out | apply below_alloc | apply pw_below_drewN | apply below_drew1) | exact HB.out)))); have n1_ := Aside0.mk (below_step (by repeat (first | (with_reducible first | exact HB.out | apply below_alloc | apply pw_below_drewN | apply below_drew1) | exact HB.out)) hb); clear HB; have HO450 := n0_; have HB := n1_; clear n0_ n1_; clear hb ho5))
     go_loopg [4] k (fun kq v4 w' => ∃ (x3_1 : List Int) (x4_1 : Int), v4 = .int .i64 x4_1 ∧ Aside0 (laws_toUint64S.l0 kq l0 x3_1 x4_1 = some r) ∧ Aside0 (kq ≤ k) ∧ Aside0 (Kd.R (Kd.int .u64) 22 w' w.heap.size (fun _ => True) v449 x3_1) ∧ Aside0 (Below w.heap.size w w'))
     case atStart => exact ⟨(y448), (0), (by first | rfl | (simp; done) | (simp [*]; done)), H', ⟨Nat.le_refl _⟩, ⟨by (with_reducible repeat (first | apply Kd.R_alloc | apply Kd.R_drewN | apply Kd.R_drew)); exact HO450.out⟩, ⟨by repeat (first | (with_reducible first | exact HB.out | apply below_alloc | apply pw_below_drewN | apply below_drew1) | exact HB.out)⟩⟩
     case round =>
      clear H'
      try clear c2
      try clear c2b0
      try clear c2b1
      try clear p2
      try clear c3
      try clear c3b0
      try clear c3b1
      obtain ⟨x3_1, x4_1, rfl, HA, HK1, HO_3, HB⟩ := hrel
      cases gk with
      | zero => exact absurd HA.out (by simp [laws_toUint64S.l0])
      | succ k1 =>
       have H := HA.out
       clear HA
       simp only [laws_toUint64S.l0] at H
       by_cases c6 : x4_1 < (l0.length : Int)
       · rw [if_pos c6] at H
         have c6b0 : decide (x4_1 < (l0.length : Int)) = true := decide_eq_true c6
         clear c6
         by_cases c7 : 0 ≤ x4_1
         · rw [if_pos c7] at H
           have c7b0 : decide (0 ≤ x4_1) = true := decide_eq_true c7
           clear c7
           by_cases c8 : x4_1 < (x3_1.length : Int)
           · rw [if_pos c8] at H
             have c8b0 : decide (x4_1 < (x3_1.length : Int)) = true := decide_eq_true c8
             clear c8
             obtain ⟨y452, hy452⟩ : ∃ y_ : List Int, y_ = (x3_1.set (x4_1 : Int).toNat (rd l0 x4_1)) := ⟨_, rfl⟩
             replace H : (laws_toUint64S.l0 k1 l0 y452 (wrap64 (x4_1 + 1))) = some r := by first | (rw [hy452]; with_reducible exact H) | (have H2_ := (Option.bind_some _ _).symm.trans H; rw [hy452]; with_reducible exact H2_) | (have H2_ := (Option.bind_some _ _).symm.trans H; with_reducible exact H2_) | with_reducible exact H | (rw [hy452]; exact H) | exact H
             have Ny452 := Aside0.mk hy452
             clear hy452
             have H' := Aside0.mk H
             clear H
             have p451 : 0 ≤ (x4_1 : Int) := of_decide_eq_true (by first | (with_reducible assumption) | assumption)
             have q451 : x4_1 < (l0.length : Int) := of_decide_eq_true (by first | (with_reducible assumption) | assumption)
             obtain ⟨ad451, e451, hx451_0⟩ := Kd.at_int HR0.out x4_1 p451 q451
             cases e451
             replace hx451_0 := (HB.out.cell (World.block_lt_of_cell? w _ hx451_0)).trans hx451_0
             replace p451 := eq_true p451
             replace q451 := eq_true q451
             have p9 : 0 ≤ (x4_1 : Int) := of_decide_eq_true (by first | (with_reducible assumption) | assumption)
             have q9 : (x4_1 : Int) < ((x3_1.length : Int) : Int) := of_decide_eq_true (by first | (with_reducible assumption) | assumption)
             obtain ⟨go9, co9, eo9, gb9, gl9, cl9, HG9⟩ := Kd.R_form HO_3.out (by omega)
             (first | cases eo9 | (injection eo9 with ea_ en_ ec_; (first | subst ea_ | (injection ea_ with ea_; subst ea_)); subst ec_; clear en_))
             have GB9 := Aside0.mk gb9
             have GG9 := Aside0.mk HG9
             clear gb9 gl9 HG9
             obtain ⟨hx9_0, hf9_0⟩ := Kd.R_celln 0 HO_3.out (x4_1 : Int) p9 q9
             replace p9 := eq_true p9
             replace q9 := eq_true q9
             have HP10 := Kd.R_putg HO_3.out (x4_1 : Int) (rd l0 x4_1)
             go_wp2_with (first | ((with_reducible refine gate_store (t := 22) (p := 20) rfl ?_); refine store_event (t := 22) (p := 20) (v := ?vo_w11) (w1 := (wr.setCell ⟨go9, (x4_1 : Int).toNat, none⟩ (.int .u64 (rd l0 x4_1)))) ?hg ?ho ?hn ?hr ?_; (case ho => rfl); (case hg => rfl); (case hn => rfl); (case hr => first | (go_simp; done) | (go_simp; rfl)); intro w11 hw; have hg : wr.grownBy w11 (some go9) := (by rw [hw]; exact HP10.2); have hp_ : Kd.R (Kd.int .u64) 22 w11 w.heap.size (fun _ => True) (.slice (some ⟨go9, 0, none⟩) x3_1.length co9) y452 := (by rw [hw, Ny452.out]; exact HP10.1); clear HP10; have n0_ := Aside0.mk (hp_); have n1_ := Aside0.mk ((by rw [hw]; exact below_set (HB.out) GB9.out : Below w.heap.size w w11)); clear HO_3; clear HB; have HO_3 := n0_; have HB := n1_; clear n0_ n1_; clear hg hw hp_))
             go_roundg k1
             case measure => have := HK1.out; omega
             case rel => exact ⟨(y452), (wrap64 (x4_1 + 1)), (by first | rfl | (simp; done) | (simp [*]; done)), H', ⟨by have := HK1.out; omega⟩, ⟨by (with_reducible repeat (first | apply Kd.R_alloc | apply Kd.R_drewN | apply Kd.R_drew)); exact HO_3.out⟩, ⟨by repeat (first | (with_reducible first | exact HB.out | apply below_alloc | apply pw_below_drewN | apply below_drew1) | exact HB.out)⟩⟩
           · rw [if_neg c8] at H
             exact absurd H (by simp)
         · rw [if_neg c7] at H
           exact absurd H (by simp)
       · rw [if_neg c6] at H
         have c6b0 : decide (x4_1 < (l0.length : Int)) = false := decide_eq_false c6
         clear c6
         obtain rfl := Option.some.inj H
         go_wp2
         go_ret
         exact ⟨_, by first | rfl | (simp [errW_none, errW_some] <;> rfl) | (simp [*, errW_none, errW_some] <;> rfl), by (with_reducible repeat (first | apply Kd.R_alloc | apply Kd.R_drewN | apply Kd.R_drew)); exact HO_3.out, by repeat (first | (with_reducible first | exact HB.out | apply below_alloc | apply pw_below_drewN | apply below_drew1) | exact HB.out)⟩
   · rw [if_neg c3] at H
     exact absurd H (by simp)
 · rw [if_neg c2] at H
   exact absurd H (by simp)

end Go.Proofs.YtkohjiajbdkcbaaDoor.All


namespace Go.Proofs.YtkohjiajbdkcbaaDoor.All
open Go.RowKit Go.Proofs.YtkohjiajbdkcbaaDoorW.PrintWords Go.Proofs.YtkohjiajbdkcbaaDoorW.PrintLast Go.Proofs.YtkohjiajbdkcbaaDoorW.PrintMore
attribute [local go_sem] max2_int min2_int max_two min_two max_three min_three max_four min_four   -- for this text's walks alone
set_option linter.unusedVariables false
set_option linter.unusedSimpArgs false

/-! ### laws_toValue: function 36 -/
def laws_toValue.f (a0_0 : Bool) (a0_1 : Int) (a0_2 : Int) : Option (Bool × Int × Int) := some (a0_0, a0_1, a0_2)
set_option maxHeartbeats 8000000 in
set_option maxRecDepth 100000 in
theorem laws_toValue.calls (a0_0 : Bool) (a0_1 : Int) (a0_2 : Int) (r1 : Bool) (r2 : Int) (r3 : Int) (w : World) (h : laws_toValue.f a0_0 a0_1 a0_2 = some (r1, r2, r3)) :
 Calls Tryd.prog 36 #[.agg #[.bool a0_0, .int .i64 a0_1, .int .u64 a0_2]] w fun e w' => e = .returned (.agg #[.bool r1, .int .i64 r2, .int .u64 r3]) ∧ Below w.heap.size w w' := by
 have hu24 := Tryd.underlying24
 have hu30 := Tryd.underlying30
 have HB := Aside0.mk (Below.refl w.heap.size w)
 have H : (some (a0_0, a0_1, a0_2)) = some (r1, r2, r3) := h
 clear h
 simp only [Option.some.injEq, Prod.mk.injEq] at H
 obtain ⟨rfl, rfl, rfl⟩ := H
 go_enter Tryd.func36, Tryd.ntmps36
 go_wp2_with (first | ((with_reducible refine gate_dst (N := 1) rfl ?_); refine box_event ?hg (N := 1) ?hd (cs := #[.bool a0_0, .int .i64 a0_1, .int .u64 a0_2]) (t := 24) ?hr ?_; (case hd => rfl); (case hg => rfl); (case hr => first | (go_simp; done) | (go_simp; rfl)); intro gb635 hg w2 hbox hb; have n0_ := Aside0.mk (below_step (by repeat (first | (with_reducible first | exact HB.out | apply below_alloc | apply pw_below_drewN | apply below_drew1) | exact HB.out)) hb); have n1_ := Aside0.mk (hbox); have n2_ := Aside0.mk ((by rw [hg]; exact (below_size (by repeat (first | (with_reducible first | exact HB.out | apply below_alloc | apply pw_below_drewN | apply below_drew1) | exact HB.out))) : w.heap.size ≤ gb635)); have n3_ := Aside0.mk ((by rw [hg]; exact (below_size (by repeat (first | (with_reducible first | exact HB.out | apply below_alloc | apply pw_below_drewN | apply below_drew1) | exact HB.out))) : w.heap.size ≤ gb635)); clear HB; have HB := n0_; have BK635 := n1_; have GW635 := n2_; have GE635 := n3_; clear n0_ n1_ n2_ n3_; clear hb hbox hg) | ((with_reducible refine gate_dst (N := 2) rfl ?_); refine box_event ?hg (N := 2) ?hd (cs := #[.bool false, .int .i64 0, .int .u64 0]) (t := 30) ?hr ?_; (case hd => rfl); (case hg => rfl); (case hr => first | (go_simp; done) | (go_simp; rfl)); intro gb636 hg w3 hbox hb; have n0_ := Aside0.mk (blk_below (g := gb635) (o := .cells #[.bool a0_0, .int .i64 a0_1, .int .u64 a0_2] 24 (0, 0)) (by (with_reducible repeat (first | refine blk_drewN ?_ _ | refine blk_drew ?_ | refine blk_alloc ?_ _)); exact BK635.out) hb); have n1_ := Aside0.mk (below_step (by repeat (first | (with_reducible first | exact HB.out | apply below_alloc | apply pw_below_drewN | apply below_drew1 | refine below_set ?_ GE635.out) | exact HB.out)) hb); have n2_ := Aside0.mk (hbox); have n3_ := Aside0.mk ((by rw [hg]; exact (below_size (by repeat (first | (with_reducible first | exact HB.out | apply below_alloc | apply pw_below_drewN | apply below_drew1 | refine below_set ?_ GE635.out) | exact HB.out))) : w.heap.size ≤ gb636)); have n4_ := Aside0.mk ((by rw [hg]; exact (below_size (by repeat (first | (with_reducible first | exact HB.out | apply below_alloc | apply pw_below_drewN | apply below_drew1 | refine below_set ?_ GE635.out) | exact HB.out))) : w.heap.size ≤ gb636)); have n5_ := Aside0.mk ((by rw [hg]; exact Nat.ne_of_lt (blk_lt (g := gb635) (o := .cells #[.bool a0_0, .int .i64 a0_1, .int .u64 a0_2] 24 (0, 0)) (by (with_reducible repeat (first | refine blk_drewN ?_ _ | refine blk_drew ?_ | refine blk_alloc ?_ _)); exact BK635.out)) : gb635 ≠ gb636)); have n6_ := Aside0.mk ((by rw [hg]; exact Nat.ne_of_gt (blk_lt (g := gb635) (o := .cells #[.bool a0_0, .int .i64 a0_1, .int .u64 a0_2] 24 (0, 0)) (by (with_reducible repeat (first | refine blk_drewN ?_ _ | refine blk_drew ?_ | refine blk_alloc ?_ _)); exact BK635.out)) : gb636 ≠ gb635)); clear BK635; clear HB; have BK635 := n0_; have HB := n1_; have BK636 := n2_; have GW636 := n3_; have GE636 := n4_; have NB635_636 := n5_; have NB636_635 := n6_; clear n0_ n1_ n2_ n3_ n4_ n5_ n6_; clear hb hbox hg) | ((with_reducible refine gate_dst (N := 3) rfl ?_); refine box_event ?hg (N := 3) ?hd (cs := #[.bool false, .int .i64 0, .int .u64 0]) (t := 30) ?hr ?_; (case hd => rfl); (case hg => rfl); (case hr => first | (go_simp; done) | (go_simp; rfl)); intro gb637 hg w4 hbox hb; have n0_ := Aside0.mk (blk_below (g := gb635) (o := .cells #[.bool a0_0, .int .i64 a0_1, .int .u64 a0_2] 24 (0, 0)) (by (with_reducible repeat (first | refine blk_drewN ?_ _ | refine blk_drew ?_ | refine blk_alloc ?_ _)); exact BK635.out) hb); have n1_ := Aside0.mk (blk_below (g := gb636) (o := .cells #[.bool false, .int .i64 0, .int .u64 0] 30 (0, 0)) (by (with_reducible repeat (first | refine blk_drewN ?_ _ | refine blk_drew ?_ | refine blk_alloc ?_ _)); exact BK636.out) hb); have n2_ := Aside0.mk (below_step (by repeat (first | (with_reducible first | exact HB.out | apply below_alloc | apply pw_below_drewN | apply below_drew1 | refine below_set ?_ GE635.out | refine below_set ?_ GE636.out) | exact HB.out)) hb); have n3_ := Aside0.mk (hbox); have n4_ := Aside0.mk ((by rw [hg]; exact (below_size (by repeat (first | (with_reducible first | exact HB.out | apply below_alloc | apply pw_below_drewN | apply below_drew1 | refine below_set ?_ GE635.out | refine below_set ?_ GE636.out) | exact HB.out))) : w.heap.size ≤ gb637)); have n5_ := Aside0.mk ((by rw [hg]; exact (below_size (by repeat (first | (with_reducible first | exact HB.out | apply below_alloc | apply pw_below_drewN | apply below_drew1 | refine below_set ?_ GE635.out | refine below_set ?_ GE636.out) | exact HB.out))) : w.heap.size ≤ gb637)); have n6_ := Aside0.mk ((by rw [hg]; exact Nat.ne_of_lt (blk_lt (g := gb635) (o := .cells #[.bool a0_0, .int .i64 a0_1, .int .u64 a0_2] 24 (0, 0)) (by (with_reducible repeat (first | refine blk_drewN ?_ _ | refine blk_drew ?_ | refine blk_alloc ?_ _)); exact BK635.out)) : gb635 ≠ gb637)); have n7_ := Aside0.mk ((by rw [hg]; exact Nat.ne_of_gt (blk_lt (g := gb635) (o := .cells #[.bool a0_0, .int .i64 a0_1, .int .u64 a0_2] 24 (0, 0)) (by (with_reducible repeat (first | refine blk_drewN ?_ _ | refine blk_drew ?_ | refine blk_alloc ?_ _)); exact BK635.out)) : gb637 ≠ gb635)); have n8_ := Aside0.mk ((by rw [hg]; exact Nat.ne_of_lt (blk_lt (g := gb636) (o := .cells #[.bool false, .int .i64 0, .int .u64 0] 30 (0, 0)) (by (with_reducible repeat (first | refine blk_drewN ?_ _ | refine blk_drew ?_ | refine blk_alloc ?_ _)); exact BK636.out)) : gb636 ≠ gb637)); have n9_ := Aside0.mk ((by rw [hg]; exact Nat.ne_of_gt (blk_lt (g := gb636) (o := .cells #[.bool false, .int .i64 0, .int .u64 0] 30 (0, 0)) (by (with_reducible repeat (first | refine blk_drewN ?_ _ | refine blk_drew ?_ | refine blk_alloc ?_ _)); exact BK636.out)) : gb637 ≠ gb636)); clear BK635; clear BK636; clear HB; have BK635 := n0_; have BK636 := n1_; have HB := n2_; have BK637 := n3_; have GW637 := n4_; have GE637 := n5_; have NB635_637 := n6_; have NB637_635 := n7_; have NB636_637 := n8_; have NB637_636 := n9_; clear n0_ n1_ n2_ n3_ n4_ n5_ n6_ n7_ n8_ n9_; clear hb hbox hg; have hnb5 := NB635_636.out; have hnc5 := NB636_635.out; have hnb6 := NB635_637.out; have hnc6 := NB637_635.out; have hcz7_0 : w4.cell? ⟨gb635, 0, none⟩ = some (.bool a0_0) := (blk_cell BK635.out 0).trans rfl; have hcz7_1 : w4.cell? ⟨gb635, 1, none⟩ = some (.int .i64 a0_1) := (blk_cell BK635.out 1).trans rfl; have hcz7_2 : w4.cell? ⟨gb635, 2, none⟩ = some (.int .u64 a0_2) := (blk_cell BK635.out 2).trans rfl; have hfz7_0 := blk_frozen BK635.out 0; have hfz7_1 := blk_frozen BK635.out 1; have hfz7_2 := blk_frozen BK635.out 2; have hnb8 := NB637_636.out; have hnc8 := NB636_637.out; have hcz9_0 : w4.cell? ⟨gb637, 0, none⟩ = some (.bool false) := (blk_cell BK637.out 0).trans rfl; have hcz9_1 : w4.cell? ⟨gb637, 1, none⟩ = some (.int .i64 0) := (blk_cell BK637.out 1).trans rfl; have hcz9_2 : w4.cell? ⟨gb637, 2, none⟩ = some (.int .u64 0) := (blk_cell BK637.out 2).trans rfl; have hfz9_0 := blk_frozen BK637.out 0; have hfz9_1 := blk_frozen BK637.out 1; have hfz9_2 := blk_frozen BK637.out 2; have hcz10_0 : w4.cell? ⟨gb636, 0, none⟩ = some (.bool false) := (blk_cell BK636.out 0).trans rfl; have hcz10_1 : w4.cell? ⟨gb636, 1, none⟩ = some (.int .i64 0) := (blk_cell BK636.out 1).trans rfl; have hcz10_2 : w4.cell? ⟨gb636, 2, none⟩ = some (.int .u64 0) := (blk_cell BK636.out 2).trans rfl; have hfz10_0 := blk_frozen BK636.out 0; have hfz10_1 := blk_frozen BK636.out 1; have hfz10_2 := blk_frozen BK636.out 2))
 refine bodyPost_ret (results_cell_row rfl _ _ gb636 30 #[.bool a0_0, .int .i64 a0_1, .int .u64 a0_2] (0, 0) _ rfl (by (with_reducible repeat (first | refine blk_drewN ?_ _ | refine blk_drew ?_ | refine blk_alloc ?_ _)); refine blk_put (cs := #[.bool a0_0, .int .i64 a0_1, .int .u64 0]) ?_ 2 _ rfl; (with_reducible repeat (first | refine blk_drewN ?_ _ | refine blk_drew ?_ | refine blk_alloc ?_ _)); refine blk_put (cs := #[.bool a0_0, .int .i64 0, .int .u64 0]) ?_ 1 _ rfl; (with_reducible repeat (first | refine blk_drewN ?_ _ | refine blk_drew ?_ | refine blk_alloc ?_ _)); refine blk_put (cs := #[.bool false, .int .i64 0, .int .u64 0]) ?_ 0 _ rfl; (with_reducible repeat (first | refine blk_drewN ?_ _ | refine blk_drew ?_ | refine blk_alloc ?_ _)); refine blk_far ?_ NB636_637.out _; (with_reducible repeat (first | refine blk_drewN ?_ _ | refine blk_drew ?_ | refine blk_alloc ?_ _)); refine blk_far ?_ NB636_637.out _; (with_reducible repeat (first | refine blk_drewN ?_ _ | refine blk_drew ?_ | refine blk_alloc ?_ _)); refine blk_far ?_ NB636_637.out _; (with_reducible repeat (first | refine blk_drewN ?_ _ | refine blk_drew ?_ | refine blk_alloc ?_ _)); exact BK636.out) Tryd.underlying30 rfl (by kernel_rfl)) rfl ?_
 exact ⟨by first | rfl | (simp [errW_none, errW_some] <;> rfl) | (simp [*, errW_none, errW_some] <;> rfl), by repeat (first | (with_reducible first | exact HB.out | apply below_alloc | apply pw_below_drewN | apply below_drew1 | refine below_set ?_ GE635.out | refine below_set ?_ GE636.out | refine below_set ?_ GE637.out) | exact HB.out)⟩

end Go.Proofs.YtkohjiajbdkcbaaDoor.All


namespace Go.Proofs.YtkohjiajbdkcbaaDoor.All
open Go.RowKit Go.Proofs.YtkohjiajbdkcbaaDoorW.PrintWords Go.Proofs.YtkohjiajbdkcbaaDoorW.PrintLast Go.Proofs.YtkohjiajbdkcbaaDoorW.PrintMore
attribute [local go_sem] max2_int min2_int max_two min_two max_three min_three max_four min_four   -- for this text's walks alone
set_option linter.unusedVariables false
set_option linter.unusedSimpArgs false

/-! ### laws_toOutcome: function 10 -/
def laws_toOutcome.f (k : Nat) (a0_0 : Int) (a0_1 : Bool) (a0_2 : Int) (a0_3 : Int) (l0_4 : List Int) (a0_5 : Int) : Option (Int × Bool × Int × Int × List Int × Int) := (laws_toValue.f a0_1 a0_2 a0_3).bind fun bt641 => ((laws_toUint64S.f k l0_4).bind fun t644 => (some (a0_0, bt641.1, bt641.2.1, bt641.2.2, t644, a0_5)))
set_option maxHeartbeats 8000000 in
set_option maxRecDepth 100000 in
theorem laws_toOutcome.calls (k : Nat) (a0_0 : Int) (a0_1 : Bool) (a0_2 : Int) (a0_3 : Int) (A0_4 : Option Addr) (c0_4 : Nat) (l0_4 : List Int) (a0_5 : Int) (r1 : Int) (r2 : Bool) (r3 : Int) (r4 : Int) (r5 : List Int) (r6 : Int) (w : World) (hr0_4 : Kd.C (Kd.int .u64) w A0_4 l0_4.length l0_4) (hc0_4 : l0_4.length ≤ c0_4) (h : laws_toOutcome.f k a0_0 a0_1 a0_2 a0_3 l0_4 a0_5 = some (r1, r2, r3, r4, r5, r6)) :
 Calls Tryd.prog 10 #[.agg #[.int .i64 a0_0, .bool a0_1, .int .i64 a0_2, .int .u64 a0_3, .slice A0_4 l0_4.length c0_4, .int .i64 a0_5]] w fun e w' => ∃ v4_ : Value, e = .returned (.agg #[.int .i64 r1, .bool r2, .int .i64 r3, .int .u64 r4, v4_, .int .i64 r6]) ∧ Kd.R (Kd.int .u64) 22 w' w.heap.size (fun _ => True) v4_ r5 ∧ Below w.heap.size w w' := by
 have hu27 := Tryd.underlying27
 have hu32 := Tryd.underlying32
 have hu24 := Tryd.underlying24
 have hu30 := Tryd.underlying30
 have HR0_4 := Aside0.mk hr0_4
 have HC0_4 := Aside0.mk hc0_4
 clear hr0_4 hc0_4
 have HB := Aside0.mk (Below.refl w.heap.size w)
 have H : ((laws_toValue.f a0_1 a0_2 a0_3).bind fun bt641 => ((laws_toUint64S.f k l0_4).bind fun t644 => (some (a0_0, bt641.1, bt641.2.1, bt641.2.2, t644, a0_5)))) = some (r1, r2, r3, r4, r5, r6) := h
 clear h
 replace H := Option.bind_eq_some_iff.mp H
 obtain ⟨⟨t641, t642, t643⟩, A20, H⟩ := H
 replace H : ((laws_toUint64S.f k l0_4).bind fun t644 => (some (a0_0, t641, t642, t643, t644, a0_5))) = some (r1, r2, r3, r4, r5, r6) := H
 have A2 := Aside0.mk A20
 clear A20
 replace H := Option.bind_eq_some_iff.mp H
 obtain ⟨t644, A30, H⟩ := H
 replace H : (some (a0_0, t641, t642, t643, t644, a0_5)) = some (r1, r2, r3, r4, r5, r6) := H
 have A3 := Aside0.mk A30
 clear A30
 simp only [Option.some.injEq, Prod.mk.injEq] at H
 obtain ⟨rfl, rfl, rfl, rfl, rfl, rfl⟩ := H
 go_enter Tryd.func10, Tryd.ntmps10
 go_wp2_with (first | ((with_reducible refine gate_dst (N := 1) rfl ?_); refine box_event ?hg (N := 1) ?hd (cs := #[.int .i64 a0_0, .bool a0_1, .int .i64 a0_2, .int .u64 a0_3, .slice A0_4 l0_4.length c0_4, .int .i64 a0_5]) (t := 27) ?hr ?_; (case hd => rfl); (case hg => rfl); (case hr => first | (go_simp; done) | (go_simp; rfl)); intro gb638 hg w4 hbox hb; have n0_ := Aside0.mk (below_step (by repeat (first | (with_reducible first | exact HB.out | apply below_alloc | apply pw_below_drewN | apply below_drew1) | exact HB.out)) hb); have n1_ := Aside0.mk (hbox); have n2_ := Aside0.mk ((by rw [hg]; exact (below_size (by repeat (first | (with_reducible first | exact HB.out | apply below_alloc | apply pw_below_drewN | apply below_drew1) | exact HB.out))) : w.heap.size ≤ gb638)); have n3_ := Aside0.mk ((by rw [hg]; exact (below_size (by repeat (first | (with_reducible first | exact HB.out | apply below_alloc | apply pw_below_drewN | apply below_drew1) | exact HB.out))) : w.heap.size ≤ gb638)); clear HB; have HB := n0_; have BK638 := n1_; have GW638 := n2_; have GE638 := n3_; clear n0_ n1_ n2_ n3_; clear hb hbox hg) | ((with_reducible refine gate_dst (N := 2) rfl ?_); refine box_event ?hg (N := 2) ?hd (cs := #[.int .i64 0, .bool false, .int .i64 0, .int .u64 0, .slice none 0 0, .int .i64 0]) (t := 32) ?hr ?_; (case hd => rfl); (case hg => rfl); (case hr => first | (go_simp; done) | (go_simp; rfl)); intro gb639 hg w5 hbox hb; have n0_ := Aside0.mk (blk_below (g := gb638) (o := .cells #[.int .i64 a0_0, .bool a0_1, .int .i64 a0_2, .int .u64 a0_3, .slice A0_4 l0_4.length c0_4, .int .i64 a0_5] 27 (0, 0)) (by (with_reducible repeat (first | refine blk_drewN ?_ _ | refine blk_drew ?_ | refine blk_alloc ?_ _)); exact BK638.out) hb); have n1_ := Aside0.mk (below_step (by repeat (first | (with_reducible first | exact HB.out | apply below_alloc | apply pw_below_drewN | apply below_drew1 | refine below_set ?_ GE638.out) | exact HB.out)) hb); have n2_ := Aside0.mk (hbox); have n3_ := Aside0.mk ((by rw [hg]; exact (below_size (by repeat (first | (with_reducible first | exact HB.out | apply below_alloc | apply pw_below_drewN | apply below_drew1 | refine below_set ?_ GE638.out) | exact HB.out))) : w.heap.size ≤ gb639)); have n4_ := Aside0.mk ((by rw [hg]; exact (below_size (by repeat (first | (with_reducible first | exact HB.out | apply below_alloc | apply pw_below_drewN | apply below_drew1 | refine below_set ?_ GE638.out) | exact HB.out))) : w.heap.size ≤ gb639)); have n5_ := Aside0.mk ((by rw [hg]; exact Nat.ne_of_lt (blk_lt (g := gb638) (o := .cells #[.int .i64 a0_0, .bool a0_1, .int .i64 a0_2, .int .u64 a0_3, .slice A0_4 l0_4.length c0_4, .int .i64 a0_5] 27 (0, 0)) (by (with_reducible repeat (first | refine blk_drewN ?_ _ | refine blk_drew ?_ | refine blk_alloc ?_ _)); exact BK638.out)) : gb638 ≠ gb639)); have n6_ := Aside0.mk ((by rw [hg]; exact Nat.ne_of_gt (blk_lt (g := gb638) (o := .cells #[.int .i64 a0_0, .bool a0_1, .int .i64 a0_2, .int .u64 a0_3, .slice A0_4 l0_4.length c0_4, .int .i64 a0_5] 27 (0, 0)) (by (with_reducible repeat (first | refine blk_drewN ?_ _ | refine blk_drew ?_ | refine blk_alloc ?_ _)); exact BK638.out)) : gb639 ≠ gb638)); clear BK638; clear HB; have BK638 := n0_; have HB := n1_; have BK639 := n2_; have GW639 := n3_; have GE639 := n4_; have NB638_639 := n5_; have NB639_638 := n6_; clear n0_ n1_ n2_ n3_ n4_ n5_ n6_; clear hb hbox hg) | ((with_reducible refine gate_dst (N := 3) rfl ?_); refine box_event ?hg (N := 3) ?hd (cs := #[.int .i64 0, .bool false, .int .i64 0, .int .u64 0, .slice none 0 0, .int .i64 0]) (t := 32) ?hr ?_; (case hd => rfl); (case hg => rfl); (case hr => first | (go_simp; done) | (go_simp; rfl)); intro gb640 hg w6 hbox hb; have n0_ := Aside0.mk (blk_below (g := gb638) (o := .cells #[.int .i64 a0_0, .bool a0_1, .int .i64 a0_2, .int .u64 a0_3, .slice A0_4 l0_4.length c0_4, .int .i64 a0_5] 27 (0, 0)) (by (with_reducible repeat (first | refine blk_drewN ?_ _ | refine blk_drew ?_ | refine blk_alloc ?_ _)); exact BK638.out) hb); have n1_ := Aside0.mk (blk_below (g := gb639) (o := .cells #[.int .i64 0, .bool false, .int .i64 0, .int .u64 0, .slice none 0 0, .int .i64 0] 32 (0, 0)) (by (with_reducible repeat (first | refine blk_drewN ?_ _ | refine blk_drew ?_ | refine blk_alloc ?_ _)); exact BK639.out) hb); have n2_ := Aside0.mk (below_step (by repeat (first | (with_reducible first | exact HB.out | apply below_alloc | apply pw_below_drewN | apply below_drew1 | refine below_set ?_ GE638.out | refine below_set ?_ GE639.out) | exact HB.out)) hb); have n3_ := Aside0.mk (hbox); have n4_ := Aside0.mk ((by rw [hg]; exact (below_size (by repeat (first | (with_reducible first | exact HB.out | apply below_alloc | apply pw_below_drewN | apply below_drew1 | refine below_set ?_ GE638.out | refine below_set ?_ GE639.out) | exact HB.out))) : w.heap.size ≤ gb640)); have n5_ := Aside0.mk ((by rw [hg]; exact (below_size (by repeat (first | (with_reducible first | exact HB.out | apply below_alloc | apply pw_below_drewN | apply below_drew1 | refine below_set ?_ GE638.out | refine below_set ?_ GE639.out) | exact HB.out))) : w.heap.size ≤ gb640)); have n6_ := Aside0.mk ((by rw [hg]; exact Nat.ne_of_lt (blk_lt (g := gb638) (o := .cells #[.int .i64 a0_0, .bool a0_1, .int .i64 a0_2, .int .u64 a0_3, .slice A0_4 l0_4.length c0_4, .int .i64 a0_5] 27 (0, 0)) (by (with_reducible repeat (first | refine blk_drewN ?_ _ | refine blk_drew ?_ | refine blk_alloc ?_ _)); exact BK638.out)) : gb638 ≠ gb640)); have n7_ := Aside0.mk ((by rw [hg]; exact Nat.ne_of_gt (blk_lt (g := gb638) (o := .cells #[.int .i64 a0_0, .bool a0_1, .int .i64 a0_2, .int .u64 a0_3, .slice A0_4 l0_4.length c0_4, .int .i64 a0_5] 27 (0, 0)) (by (with_reducible repeat (first | refine blk_drewN ?_ _ | refine blk_drew ?_ | refine blk_alloc ?_ _)); exact BK638.out)) : gb640 ≠ gb638)); have n8_ := Aside0.mk ((by rw [hg]; exact Nat.ne_of_lt (blk_lt (g := gb639) (o := .cells #[.int .i64 0, .bool false, .int .i64 0, .int .u64 0, .slice none 0 0, .int .i64 0] 32 (0, 0)) (by (with_reducible repeat (first | refine blk_drewN ?_ _ | refine blk_drew ?_ | refine blk_alloc ?_ _)); exact BK639.out)) : gb639 ≠ gb640)); have n9_ := Aside0.mk ((by rw [hg]; exact Nat.ne_of_gt (blk_lt (g := gb639) (o := .cells #[.int .i64 0, .bool false, .int .i64 0, .int .u64 0, .slice none 0 0, .int .i64 0] 32 (0, 0)) (by (with_reducible repeat (first | refine blk_drewN ?_ _ | refine blk_drew ?_ | refine blk_alloc ?_ _)); exact BK639.out)) : gb640 ≠ gb639)); clear BK638; clear BK639; clear HB; have BK638 := n0_; have BK639 := n1_; have HB := n2_; have BK640 := n3_; have GW640 := n4_; have GE640 := n5_; have NB638_640 := n6_; have NB640_638 := n7_; have NB639_640 := n8_; have NB640_639 := n9_; clear n0_ n1_ n2_ n3_ n4_ n5_ n6_ n7_ n8_ n9_; clear hb hbox hg; have hnb7 := NB638_639.out; have hnc7 := NB639_638.out; have hnb8 := NB638_640.out; have hnc8 := NB640_638.out; have hcz9_0 : w6.cell? ⟨gb638, 0, none⟩ = some (.int .i64 a0_0) := (blk_cell BK638.out 0).trans rfl; have hcz9_1 : w6.cell? ⟨gb638, 1, none⟩ = some (.bool a0_1) := (blk_cell BK638.out 1).trans rfl; have hcz9_2 : w6.cell? ⟨gb638, 2, none⟩ = some (.int .i64 a0_2) := (blk_cell BK638.out 2).trans rfl; have hcz9_3 : w6.cell? ⟨gb638, 3, none⟩ = some (.int .u64 a0_3) := (blk_cell BK638.out 3).trans rfl; have hcz9_4 : w6.cell? ⟨gb638, 4, none⟩ = some (.slice A0_4 l0_4.length c0_4) := (blk_cell BK638.out 4).trans rfl; have hcz9_5 : w6.cell? ⟨gb638, 5, none⟩ = some (.int .i64 a0_5) := (blk_cell BK638.out 5).trans rfl; have hfz9_0 := blk_frozen BK638.out 0; have hfz9_1 := blk_frozen BK638.out 1; have hfz9_2 := blk_frozen BK638.out 2; have hfz9_3 := blk_frozen BK638.out 3; have hfz9_4 := blk_frozen BK638.out 4; have hfz9_5 := blk_frozen BK638.out 5; have hnb10 := NB640_639.out; have hnc10 := NB639_640.out; have hcz11_0 : w6.cell? ⟨gb640, 0, none⟩ = some (.int .i64 0) := (blk_cell BK640.out 0).trans rfl; have hcz11_1 : w6.cell? ⟨gb640, 1, none⟩ = some (.bool false) := (blk_cell BK640.out 1).trans rfl; have hcz11_2 : w6.cell? ⟨gb640, 2, none⟩ = some (.int .i64 0) := (blk_cell BK640.out 2).trans rfl; have hcz11_3 : w6.cell? ⟨gb640, 3, none⟩ = some (.int .u64 0) := (blk_cell BK640.out 3).trans rfl; have hcz11_4 : w6.cell? ⟨gb640, 4, none⟩ = some (.slice none 0 0) := (blk_cell BK640.out 4).trans rfl; have hcz11_5 : w6.cell? ⟨gb640, 5, none⟩ = some (.int .i64 0) := (blk_cell BK640.out 5).trans rfl; have hfz11_0 := blk_frozen BK640.out 0; have hfz11_1 := blk_frozen BK640.out 1; have hfz11_2 := blk_frozen BK640.out 2; have hfz11_3 := blk_frozen BK640.out 3; have hfz11_4 := blk_frozen BK640.out 4; have hfz11_5 := blk_frozen BK640.out 5) | ((with_reducible refine gate_callee (f := 36) rfl ?_); refine goesL_ (some 9) rfl rfl Tryd.func36 (by kernel_rfl) rfl #[.agg #[.bool a0_1, .int .i64 a0_2, .int .u64 a0_3]] rfl (by (try simp only [List.map_toArray, List.map_cons, List.map_nil]); first | done | rfl | (simp only [List.length_drop, List.length_take]; rfl)) ?_; (with_reducible refine (laws_toValue.calls a0_1 a0_2 a0_3 t641 t642 t643 _ A2.out).mono ?_); rintro e w12 ⟨rfl, hb⟩; refine ⟨_, rfl, ?_⟩; have n0_ := Aside0.mk (blk_below (g := gb638) (o := .cells #[.int .i64 a0_0, .bool a0_1, .int .i64 a0_2, .int .u64 a0_3, .slice A0_4 l0_4.length c0_4, .int .i64 a0_5] 27 (0, 0)) (by (with_reducible repeat (first | refine blk_drewN ?_ _ | refine blk_drew ?_ | refine blk_alloc ?_ _)); refine blk_far ?_ NB638_640.out _; (with_reducible repeat (first | refine blk_drewN ?_ _ | refine blk_drew ?_ | refine blk_alloc ?_ _)); exact BK638.out) hb); have n1_ := Aside0.mk (blk_below (g := gb639) (o := .cells #[.int .i64 0, .bool false, .int .i64 0, .int .u64 0, .slice none 0 0, .int .i64 0] 32 (0, 0)) (by (with_reducible repeat (first | refine blk_drewN ?_ _ | refine blk_drew ?_ | refine blk_alloc ?_ _)); refine blk_far ?_ NB639_640.out _; (with_reducible repeat (first | refine blk_drewN ?_ _ | refine blk_drew ?_ | refine blk_alloc ?_ _)); exact BK639.out) hb); have n2_ := Aside0.mk (blk_below (g := gb640) (o := .cells #[.int .i64 a0_0, .bool false, .int .i64 0, .int .u64 0, .slice none 0 0, .int .i64 0] 32 (0, 0)) (by (with_reducible repeat (first | refine blk_drewN ?_ _ | refine blk_drew ?_ | refine blk_alloc ?_ _)); refine blk_put (cs := #[.int .i64 0, .bool false, .int .i64 0, .int .u64 0, .slice none 0 0, .int .i64 0]) ?_ 0 _ rfl; (with_reducible repeat (first | refine blk_drewN ?_ _ | refine blk_drew ?_ | refine blk_alloc ?_ _)); exact BK640.out) hb); have n3_ := Aside0.mk (below_step (by repeat (first | (with_reducible first | exact HB.out | apply below_alloc | apply pw_below_drewN | apply below_drew1 | refine below_set ?_ GE638.out | refine below_set ?_ GE639.out | refine below_set ?_ GE640.out) | exact HB.out)) hb); clear BK638; clear BK639; clear BK640; clear HB; have BK638 := n0_; have BK639 := n1_; have BK640 := n2_; have HB := n3_; clear n0_ n1_ n2_ n3_; (try clear hb); (try clear hb2); (try clear hk); (try clear hi); have hcz13_0 : w12.cell? ⟨gb640, 0, none⟩ = some (.int .i64 a0_0) := (blk_cell BK640.out 0).trans rfl; have hcz13_1 : w12.cell? ⟨gb640, 1, none⟩ = some (.bool false) := (blk_cell BK640.out 1).trans rfl; have hcz13_2 : w12.cell? ⟨gb640, 2, none⟩ = some (.int .i64 0) := (blk_cell BK640.out 2).trans rfl; have hcz13_3 : w12.cell? ⟨gb640, 3, none⟩ = some (.int .u64 0) := (blk_cell BK640.out 3).trans rfl; have hcz13_4 : w12.cell? ⟨gb640, 4, none⟩ = some (.slice none 0 0) := (blk_cell BK640.out 4).trans rfl; have hcz13_5 : w12.cell? ⟨gb640, 5, none⟩ = some (.int .i64 0) := (blk_cell BK640.out 5).trans rfl; have hfz13_0 := blk_frozen BK640.out 0; have hfz13_1 := blk_frozen BK640.out 1; have hfz13_2 := blk_frozen BK640.out 2; have hfz13_3 := blk_frozen BK640.out 3; have hfz13_4 := blk_frozen BK640.out 4; have hfz13_5 := blk_frozen BK640.out 5; have hcz14_0 : w12.cell? ⟨gb638, 0, none⟩ = some (.int .i64 a0_0) := (blk_cell BK638.out 0).trans rfl; have hcz14_1 : w12.cell? ⟨gb638, 1, none⟩ = some (.bool a0_1) := (blk_cell BK638.out 1).trans rfl; have hcz14_2 : w12.cell? ⟨gb638, 2, none⟩ = some (.int .i64 a0_2) := (blk_cell BK638.out 2).trans rfl; have hcz14_3 : w12.cell? ⟨gb638, 3, none⟩ = some (.int .u64 a0_3) := (blk_cell BK638.out 3).trans rfl; have hcz14_4 : w12.cell? ⟨gb638, 4, none⟩ = some (.slice A0_4 l0_4.length c0_4) := (blk_cell BK638.out 4).trans rfl; have hcz14_5 : w12.cell? ⟨gb638, 5, none⟩ = some (.int .i64 a0_5) := (blk_cell BK638.out 5).trans rfl; have hfz14_0 := blk_frozen BK638.out 0; have hfz14_1 := blk_frozen BK638.out 1; have hfz14_2 := blk_frozen BK638.out 2; have hfz14_3 := blk_frozen BK638.out 3; have hfz14_4 := blk_frozen BK638.out 4; have hfz14_5 := blk_frozen BK638.out 5) | ((with_reducible refine gate_callee (f := 37) rfl ?_); refine goesL_ (some 13) rfl rfl Tryd.func37 (by kernel_rfl) rfl #[.slice A0_4 l0_4.length c0_4] rfl (by (try simp only [List.map_toArray, List.map_cons, List.map_nil]); first | done | rfl | (simp only [List.length_drop, List.length_take]; rfl)) ?_; (with_reducible refine (laws_toUint64S.calls k _ _ l0_4 t644 _ ?side1 ?side2 A3.out).mono ?_); (case side1 => exact Kd.C_below HR0_4.out (by repeat (first | (with_reducible first | exact HB.out | apply below_alloc | apply pw_below_drewN | apply below_drew1 | refine below_set ?_ GE638.out | refine below_set ?_ GE639.out | refine below_set ?_ GE640.out) | exact HB.out))); (case side2 => exact HC0_4.out); rintro e w15 ⟨v645, rfl, ho0, hb⟩; refine ⟨_, rfl, ?_⟩; have n0_ := Aside0.mk (Kd.R_lower ho0 (below_size (by repeat (first | (with_reducible first | exact HB.out | apply below_alloc | apply pw_below_drewN | apply below_drew1 | refine below_set ?_ GE638.out | refine below_set ?_ GE639.out | refine below_set ?_ GE640.out) | exact HB.out)))); have n1_ := Aside0.mk (blk_below (g := gb638) (o := .cells #[.int .i64 a0_0, .bool a0_1, .int .i64 a0_2, .int .u64 a0_3, .slice A0_4 l0_4.length c0_4, .int .i64 a0_5] 27 (0, 0)) (by (with_reducible repeat (first | refine blk_drewN ?_ _ | refine blk_drew ?_ | refine blk_alloc ?_ _)); refine blk_far ?_ NB638_640.out _; (with_reducible repeat (first | refine blk_drewN ?_ _ | refine blk_drew ?_ | refine blk_alloc ?_ _)); refine blk_far ?_ NB638_640.out _; (with_reducible repeat (first | refine blk_drewN ?_ _ | refine blk_drew ?_ | refine blk_alloc ?_ _)); refine blk_far ?_ NB638_640.out _; (with_reducible repeat (first | refine blk_drewN ?_ _ | refine blk_drew ?_ | refine blk_alloc ?_ _)); exact BK638.out) hb); have n2_ := Aside0.mk (blk_below (g := gb639) (o := .cells #[.int .i64 0, .bool false, .int .i64 0, .int .u64 0, .slice none 0 0, .int .i64 0] 32 (0, 0)) (by (with_reducible repeat (first | refine blk_drewN ?_ _ | refine blk_drew ?_ | refine blk_alloc ?_ _)); refine blk_far ?_ NB639_640.out _; (with_reducible repeat (first | refine blk_drewN ?_ _ | refine blk_drew ?_ | refine blk_alloc ?_ _)); refine blk_far ?_ NB639_640.out _; (with_reducible repeat (first | refine blk_drewN ?_ _ | refine blk_drew ?_ | refine blk_alloc ?_ _)); refine blk_far ?_ NB639_640.out _; (with_reducible repeat (first | refine blk_drewN ?_ _ | refine blk_drew ?_ | refine blk_alloc ?_ _)); exact BK639.out) hb); have n3_ := Aside0.mk (blk_below (g := gb640) (o := .cells #[.int .i64 a0_0, .bool t641, .int .i64 t642, .int .u64 t643, .slice none 0 0, .int .i64 0] 32 (0, 0)) (by (with_reducible repeat (first | refine blk_drewN ?_ _ | refine blk_drew ?_ | refine blk_alloc ?_ _)); refine blk_put (cs := #[.int .i64 a0_0, .bool t641, .int .i64 t642, .int .u64 0, .slice none 0 0, .int .i64 0]) ?_ 3 _ rfl; (with_reducible repeat (first | refine blk_drewN ?_ _ | refine blk_drew ?_ | refine blk_alloc ?_ _)); refine blk_put (cs := #[.int .i64 a0_0, .bool t641, .int .i64 0, .int .u64 0, .slice none 0 0, .int .i64 0]) ?_ 2 _ rfl; (with_reducible repeat (first | refine blk_drewN ?_ _ | refine blk_drew ?_ | refine blk_alloc ?_ _)); refine blk_put (cs := #[.int .i64 a0_0, .bool false, .int .i64 0, .int .u64 0, .slice none 0 0, .int .i64 0]) ?_ 1 _ rfl; (with_reducible repeat (first | refine blk_drewN ?_ _ | refine blk_drew ?_ | refine blk_alloc ?_ _)); exact BK640.out) hb); have n4_ := Aside0.mk (below_step (by repeat (first | (with_reducible first | exact HB.out | apply below_alloc | apply pw_below_drewN | apply below_drew1 | refine below_set ?_ GE638.out | refine below_set ?_ GE639.out | refine below_set ?_ GE640.out) | exact HB.out)) hb); clear BK638; clear BK639; clear BK640; clear HB; have HO646 := n0_; have BK638 := n1_; have BK639 := n2_; have BK640 := n3_; have HB := n4_; clear n0_ n1_ n2_ n3_ n4_; (try clear hb); (try clear hb2); (try clear hk); (try clear hi); (try clear ho0); obtain ⟨Ao16, co16, eo16⟩ := Kd.R_slice HO646.out; subst eo16; have hcz17_0 : w15.cell? ⟨gb640, 0, none⟩ = some (.int .i64 a0_0) := (blk_cell BK640.out 0).trans rfl; have hcz17_1 : w15.cell? ⟨gb640, 1, none⟩ = some (.bool t641) := (blk_cell BK640.out 1).trans rfl; have hcz17_2 : w15.cell? ⟨gb640, 2, none⟩ = some (.int .i64 t642) := (blk_cell BK640.out 2).trans rfl; have hcz17_3 : w15.cell? ⟨gb640, 3, none⟩ = some (.int .u64 t643) := (blk_cell BK640.out 3).trans rfl; have hcz17_4 : w15.cell? ⟨gb640, 4, none⟩ = some (.slice none 0 0) := (blk_cell BK640.out 4).trans rfl; have hcz17_5 : w15.cell? ⟨gb640, 5, none⟩ = some (.int .i64 0) := (blk_cell BK640.out 5).trans rfl; have hfz17_0 := blk_frozen BK640.out 0; have hfz17_1 := blk_frozen BK640.out 1; have hfz17_2 := blk_frozen BK640.out 2; have hfz17_3 := blk_frozen BK640.out 3; have hfz17_4 := blk_frozen BK640.out 4; have hfz17_5 := blk_frozen BK640.out 5; have hcz18_0 : w15.cell? ⟨gb638, 0, none⟩ = some (.int .i64 a0_0) := (blk_cell BK638.out 0).trans rfl; have hcz18_1 : w15.cell? ⟨gb638, 1, none⟩ = some (.bool a0_1) := (blk_cell BK638.out 1).trans rfl; have hcz18_2 : w15.cell? ⟨gb638, 2, none⟩ = some (.int .i64 a0_2) := (blk_cell BK638.out 2).trans rfl; have hcz18_3 : w15.cell? ⟨gb638, 3, none⟩ = some (.int .u64 a0_3) := (blk_cell BK638.out 3).trans rfl; have hcz18_4 : w15.cell? ⟨gb638, 4, none⟩ = some (.slice A0_4 l0_4.length c0_4) := (blk_cell BK638.out 4).trans rfl; have hcz18_5 : w15.cell? ⟨gb638, 5, none⟩ = some (.int .i64 a0_5) := (blk_cell BK638.out 5).trans rfl; have hfz18_0 := blk_frozen BK638.out 0; have hfz18_1 := blk_frozen BK638.out 1; have hfz18_2 := blk_frozen BK638.out 2; have hfz18_3 := blk_frozen BK638.out 3; have hfz18_4 := blk_frozen BK638.out 4; have hfz18_5 := blk_frozen BK638.out 5; have hcz19_0 : w15.cell? ⟨gb639, 0, none⟩ = some (.int .i64 0) := (blk_cell BK639.out 0).trans rfl; have hcz19_1 : w15.cell? ⟨gb639, 1, none⟩ = some (.bool false) := (blk_cell BK639.out 1).trans rfl; have hcz19_2 : w15.cell? ⟨gb639, 2, none⟩ = some (.int .i64 0) := (blk_cell BK639.out 2).trans rfl; have hcz19_3 : w15.cell? ⟨gb639, 3, none⟩ = some (.int .u64 0) := (blk_cell BK639.out 3).trans rfl; have hcz19_4 : w15.cell? ⟨gb639, 4, none⟩ = some (.slice none 0 0) := (blk_cell BK639.out 4).trans rfl; have hcz19_5 : w15.cell? ⟨gb639, 5, none⟩ = some (.int .i64 0) := (blk_cell BK639.out 5).trans rfl; have hfz19_0 := blk_frozen BK639.out 0; have hfz19_1 := blk_frozen BK639.out 1; have hfz19_2 := blk_frozen BK639.out 2; have hfz19_3 := blk_frozen BK639.out 3; have hfz19_4 := blk_frozen BK639.out 4; have hfz19_5 := blk_frozen BK639.out 5))
 refine bodyPost_ret (results_cell_row rfl _ _ gb639 32 #[.int .i64 a0_0, .bool t641, .int .i64 t642, .int .u64 t643, .slice Ao16 t644.length co16, .int .i64 a0_5] (0, 0) _ rfl (by (with_reducible repeat (first | refine blk_drewN ?_ _ | refine blk_drew ?_ | refine blk_alloc ?_ _)); refine blk_put (cs := #[.int .i64 a0_0, .bool t641, .int .i64 t642, .int .u64 t643, .slice Ao16 t644.length co16, .int .i64 0]) ?_ 5 _ rfl; (with_reducible repeat (first | refine blk_drewN ?_ _ | refine blk_drew ?_ | refine blk_alloc ?_ _)); refine blk_put (cs := #[.int .i64 a0_0, .bool t641, .int .i64 t642, .int .u64 t643, .slice none 0 0, .int .i64 0]) ?_ 4 _ rfl; (with_reducible repeat (first | refine blk_drewN ?_ _ | refine blk_drew ?_ | refine blk_alloc ?_ _)); refine blk_put (cs := #[.int .i64 a0_0, .bool t641, .int .i64 t642, .int .u64 0, .slice none 0 0, .int .i64 0]) ?_ 3 _ rfl; (with_reducible repeat (first | refine blk_drewN ?_ _ | refine blk_drew ?_ | refine blk_alloc ?_ _)); refine blk_put (cs := #[.int .i64 a0_0, .bool t641, .int .i64 0, .int .u64 0, .slice none 0 0, .int .i64 0]) ?_ 2 _ rfl; (with_reducible repeat (first | refine blk_drewN ?_ _ | refine blk_drew ?_ | refine blk_alloc ?_ _)); refine blk_put (cs := #[.int .i64 a0_0, .bool false, .int .i64 0, .int .u64 0, .slice none 0 0, .int .i64 0]) ?_ 1 _ rfl; (with_reducible repeat (first | refine blk_drewN ?_ _ | refine blk_drew ?_ | refine blk_alloc ?_ _)); refine blk_put (cs := #[.int .i64 0, .bool false, .int .i64 0, .int .u64 0, .slice none 0 0, .int .i64 0]) ?_ 0 _ rfl; (with_reducible repeat (first | refine blk_drewN ?_ _ | refine blk_drew ?_ | refine blk_alloc ?_ _)); refine blk_far ?_ NB639_640.out _; (with_reducible repeat (first | refine blk_drewN ?_ _ | refine blk_drew ?_ | refine blk_alloc ?_ _)); refine blk_far ?_ NB639_640.out _; (with_reducible repeat (first | refine blk_drewN ?_ _ | refine blk_drew ?_ | refine blk_alloc ?_ _)); exact BK639.out) Tryd.underlying32 rfl (by kernel_rfl)) rfl ?_
 exact ⟨_, by first | rfl | (simp [errW_none, errW_some] <;> rfl) | (simp [*, errW_none, errW_some] <;> rfl), by (with_reducible repeat (first | apply Kd.R_alloc | apply Kd.R_drewN | apply Kd.R_drew)); exact Kd.R_mono (Kd.R_far (p := ⟨gb639, 5, none⟩) (Kd.R_far (p := ⟨gb639, 4, none⟩) (Kd.R_far (p := ⟨gb639, 3, none⟩) (Kd.R_far (p := ⟨gb639, 2, none⟩) (Kd.R_far (p := ⟨gb639, 1, none⟩) (Kd.R_far (p := ⟨gb639, 0, none⟩) (Kd.R_far (p := ⟨gb640, 5, none⟩) (Kd.R_far (p := ⟨gb640, 4, none⟩) (Kd.R_types (Kd.R_types HO646.out BK640.out (by decide)) BK639.out (by decide)) (fun _ hk => hk.1.2) (.slice Ao16 t644.length co16)) (fun _ hk => hk.1.2) (.int .i64 a0_5)) (fun _ hk => hk.2) (.int .i64 a0_0)) (fun _ hk => hk.2) (.bool t641)) (fun _ hk => hk.2) (.int .i64 t642)) (fun _ hk => hk.2) (.int .u64 t643)) (fun _ hk => hk.2) (.slice Ao16 t644.length co16)) (fun _ hk => hk.2) (.int .i64 a0_5)) (fun _ hk => trivial), by repeat (first | (with_reducible first | exact HB.out | apply below_alloc | apply pw_below_drewN | apply below_drew1 | refine below_set ?_ GE638.out | refine below_set ?_ GE639.out | refine below_set ?_ GE640.out) | exact HB.out)⟩

end Go.Proofs.YtkohjiajbdkcbaaDoor.All


/- A text out of its bytes; the texts of an outcome. -/
namespace Go.Proofs.YtkohjiajbdkcbaaDoor.All
open Go.RowKit Go.Proofs.YtkohjiajbdkcbaaDoorW.PrintWords Go.Proofs.YtkohjiajbdkcbaaDoorW.PrintLast Go.Proofs.YtkohjiajbdkcbaaDoorW.PrintMore
set_option linter.unusedVariables false
set_option linter.unusedSimpArgs false
def bsOf (l : List UInt8) : ByteArray := ⟨l.toArray⟩
theorem bsOf_append (a b : List UInt8) : bsOf a ++ bsOf b = bsOf (a ++ b) := by
  apply ByteArray.ext
  rw [ByteArray.data_append]
  simp [bsOf]
theorem bsOf_size (a : List UInt8) : (bsOf a).size = a.length := by simp [bsOf, ByteArray.size]
def outHead (l : List Int) : List UInt8 := l.flatMap fun p => [112, 114, 105, 110, 116, 32] ++ Lib.itoa (wrap64 p) ++ [10]
theorem outHead_succ (l : List Int) (m : Nat) (h : m < l.length) : outHead (l.take (m + 1)) = outHead (l.take m) ++ ([112, 114, 105, 110, 116, 32] ++ Lib.itoa (wrap64 l[m]) ++ [10]) := by
  unfold outHead
  rw [List.take_succ_eq_append_getElem h, List.flatMap_append]
  simp
def outTail (e : Int) (poison : Bool) (obj word : Int) : List UInt8 :=
  if e = 0 then (if poison = true then [114, 101, 116, 117, 114, 110, 32, 112, 111, 105, 115, 111, 110] else if obj = 0 then [114, 101, 116, 117, 114, 110, 32] ++ Lib.itoa (wrap64 word) else [114, 101, 116, 117, 114, 110, 32, 112, 111, 105, 110, 116, 101, 114])
  else if e = 1 then [116, 114, 97, 112] else if e = 2 then [117, 110, 100, 101, 102, 105, 110, 101, 100] else if e = 3 then [115, 116, 101, 112, 115] else if e = 4 then [100, 101, 112, 116, 104] else if e = 5 then [112, 114, 105, 110, 116, 115] else if e = 6 then [109, 105, 115, 115, 105, 110, 103] else [98, 97, 100]
end Go.Proofs.YtkohjiajbdkcbaaDoor.All


/- strings.Builder at this translation: copyCheck and WriteString, turned from the shelf's worked proofs (their bodies part here at the check of a copied builder, which the row's cut refuses). -/
namespace Go.Proofs.YtkohjiajbdkcbaaDoor.All
open Go.RowKit Go.Proofs.YtkohjiajbdkcbaaDoorW.PrintWords Go.Proofs.YtkohjiajbdkcbaaDoorW.PrintLast Go.Proofs.YtkohjiajbdkcbaaDoorW.PrintMore
set_option linter.unusedVariables false
set_option linter.unusedSimpArgs false
open Go.Shelf
theorem bld_size : (Tryd.prog.info? 87).map (·.size) = some 2 := by kernel_rfl
theorem bld_lies : liesAt Tryd.prog Tryd.prog.depth 87 (2 / Tryd.prog.cellsOf 87) 0 87 1 = true := by kernel_rfl
theorem bld_byte : (Tryd.prog.info? 5).map (fun i => (i.zero, i.size, i.bytes)) = some (some (.int .u8 0), 1, 1) := by kernel_rfl
set_option maxHeartbeats 1000000 in
set_option maxRecDepth 100000 in
theorem bld_copyCheck_used (b : Nat) (w : World) (h0 : w.cell? ⟨b, 0, none⟩ = some (.pointer (some ⟨b, 0, none⟩))) :
    Calls Tryd.prog 77 #[.pointer (some ⟨b, 0, none⟩)] w fun e w' => e = .returned (.tuple #[]) ∧ w' = w := by
  obtain ⟨j, hj, _⟩ := Option.map_eq_some_iff.1 bld_size
  go_enter Tryd.func77, Tryd.ntmps77
  go_wp2
  rw [Lib.run_neq_ptr_same w _ Tryd.underlying85 hj]
  go_wp2
  go_end0
  exact ⟨rfl, rfl⟩
set_option maxHeartbeats 1000000 in
set_option maxRecDepth 100000 in
theorem bld_copyCheck_fresh (b : Nat) (w : World) (h0 : w.cell? ⟨b, 0, none⟩ = some (.pointer none)) (hsh : w.shape? b = some (87, 2)) (hfz : w.frozen? ⟨b, 0, none⟩ = false) :
    Calls Tryd.prog 77 #[.pointer (some ⟨b, 0, none⟩)] w fun e w' => e = .returned (.tuple #[]) ∧ w' = w.setCell ⟨b, 0, none⟩ (.pointer (some ⟨b, 0, none⟩)) := by
  obtain ⟨j, hj, hjs⟩ := Option.map_eq_some_iff.1 bld_size
  go_enter Tryd.func77, Tryd.ntmps77
  go_wp2
  rw [Lib.run_to_unsafe w ⟨b, 0, none⟩ Tryd.underlying85 Tryd.underlying158 hj (by rw [hjs]; decide) hsh (Nat.zero_lt_succ 1)]
  simp only [Result.andThen]
  rw [Oper.upon_value]
  go_wp2
  rw [run_callFunc_extern Tryd.func101 (by kernel_rfl) (by kernel_rfl) (by kernel_rfl) (e := Extern.AbiNoEscape.same) (by kernel_rfl)]
  rw [Lib.run_noEscape]
  simp only [Result.andThen]
  rw [Oper.upon_value]
  go_wp2
  rw [Lib.run_from_unsafe w ⟨b, 0, none⟩ Tryd.underlying158 Tryd.underlying85 hj hsh bld_lies]
  simp only [Result.andThen]
  rw [Oper.upon_value]
  go_wp2
  go_end0
  exact ⟨rfl, rfl⟩
theorem bld_copyCheck (B b : Nat) (bs : List Value) (w : World) (h : Lib.IsBuilder 87 5 B b bs w) :
    Calls Tryd.prog 77 #[.pointer (some ⟨b, 0, none⟩)] w fun e w' => e = .returned (.tuple #[]) ∧ (Lib.BuilderAt 87 5 B b (.pointer (some ⟨b, 0, none⟩)) bs w' ∧ Below B w w') := by
  rcases h with h | h
  · refine (bld_copyCheck_fresh b w h.cell0 h.shape h.frozen0).mono ?_
    rintro e w' ⟨rfl, rfl⟩
    exact ⟨rfl, h.used _, (Below.refl B w).setCell (p := ⟨b, 0, none⟩) h.1 _⟩
  · refine (bld_copyCheck_used b w h.cell0).mono ?_
    rintro e w' ⟨rfl, rfl⟩
    exact ⟨rfl, h, Below.refl B _⟩
set_option maxHeartbeats 2000000 in
set_option maxRecDepth 100000 in
theorem bld_WriteString (B b : Nat) (bs : List Value) (s : ByteArray) (w : World) (h : Lib.IsBuilder 87 5 B b bs w) (hlen : bs.length + s.size ≤ 140737488355328) (hBw : B ≤ w.heap.size) :
    Calls Tryd.prog 40 #[.pointer (some ⟨b, 0, none⟩), .string s] w fun e w' => e = .returned (.tuple #[.int .i64 s.size, .nilIface]) ∧ (Lib.BuilderAt 87 5 B b (.pointer (some ⟨b, 0, none⟩)) (bs ++ Lib.strCells s) w' ∧ Below B w w') := by
  obtain ⟨i0, hi, hz0, hz1, hz2⟩ := info_parts bld_byte
  have hu := Tryd.underlying87
  go_enter Tryd.func40, Tryd.ntmps40
  go_wp2_with (go_at_call 77; refine (bld_copyCheck B b bs _ h).mono ?_)
  rintro e w1 ⟨rfl, h1, hb1⟩
  obtain ⟨hB, v, hbk, hown, hne⟩ := h1
  have c0 : w1.cell? ⟨b, 0, none⟩ = some (.pointer (some ⟨b, 0, none⟩)) := by rw [Lib.cell_of_heap hbk]; rfl
  have c1 : w1.cell? ⟨b, 1, none⟩ = some v := by rw [Lib.cell_of_heap hbk]; rfl
  go_wp2_with (at_builtin; refine Lib.wpList_append_own_string _ rfl _ _ 41 9 rfl B 5 i0 Tryd.underlying41 Tryd.underlying9 hi hz0 hz1 hz2 _ _ _ rfl hown s rfl ?c3 ?c4 ?c5 ?_)
  case c3 => unfold maxLen; omega
  case c4 => omega
  case c5 => have := hb1.size; omega
  intro v' w2 hown' hgrow _
  have hlt : b < w1.heap.size := by
    rcases Nat.lt_or_ge b w1.heap.size with h' | h'
    · exact h'
    · simp [Array.getElem?_eq_none h'] at hbk
  have hb2 : w2.heap[b]? = some (.cells #[.pointer (some ⟨b, 0, none⟩), v] 87 (0, 0)) := by
    rw [hgrow.block b hlt (fun e => hne e.symm)]
    exact hbk
  have d0 : w2.cell? ⟨b, 0, none⟩ = some (.pointer (some ⟨b, 0, none⟩)) := by rw [Lib.cell_of_heap hb2]; rfl
  have d1 : w2.cell? ⟨b, 1, none⟩ = some v := by rw [Lib.cell_of_heap hb2]; rfl
  have f1 : w2.frozen? ⟨b, 1, none⟩ = false := Lib.frozen_of_heap hb2 1
  obtain ⟨ao, n', cap, rfl⟩ : ∃ ao n' cap, v' = .slice ao n' cap := by
    rcases hown'.2 with ⟨hv, _⟩ | ⟨g, cap, cur, hv, _⟩
    · exact ⟨_, _, _, hv⟩
    · exact ⟨_, _, _, hv⟩
  go_wp2
  go_ret2
  refine ⟨rfl, ?_, ?_⟩
  · exact Lib.BuilderAt.put (T := 87) (e := 5) hB hb2 (bs' := bs ++ Lib.strCells s) (by simpa [Lib.strCells_length] using hown') (by decide)
  · exact (hb1.grown hgrow (by have := hb1.size; omega) (fun k hk => (hown.lt k hk).1)).setCell (p := ⟨b, 1, none⟩) hB _
end Go.Proofs.YtkohjiajbdkcbaaDoor.All


/- Contracts of Go's library at this translation: laid by the shelf's lay-shelf.mjs and lay-plain.mjs, those that this session's claims use. -/
namespace Go.Proofs
open Go.Shelf
set_option linter.unusedVariables false
def Tryd.lays169_ren : Go.Shelf.Ren := ⟨fun | 169 => 41 | n => n, fun | 70 => 85 | 9 => 9 | 0 => 0 | 72 => 87 | 37 => 41 | 127 => 132 | 3 => 3 | 5 => 5 | n => n, fun | n => n⟩
theorem Tryd.lays169 : Go.Proofs.Lays.n169 Tryd.prog Tryd.lays169_ren := {
  mixed := by kernel_rfl
  f169 := Tryd.func41.trans (congrArg some (by kernel_rfl))
  t0 := Tryd.underlying0
  a0 := Tryd.isAgg0
  z0 := Tryd.sizeOf0
  v0 := Tryd.zeroValue0
  t3 := Tryd.underlying3
  a3 := Tryd.isAgg3
  z3 := Tryd.sizeOf3
  v3 := Tryd.zeroValue3
  t9 := Tryd.underlying9
  a9 := Tryd.isAgg9
  z9 := Tryd.sizeOf9
  v9 := Tryd.zeroValue9
  t37 := Tryd.underlying41
  a37 := Tryd.isAgg41
  z37 := Tryd.sizeOf41
  v37 := Tryd.zeroValue41
  t70 := Tryd.underlying85
  a70 := Tryd.isAgg85
  z70 := Tryd.sizeOf85
  v70 := Tryd.zeroValue85
  t72 := Tryd.underlying87
  a72 := Tryd.isAgg87
  z72 := Tryd.sizeOf87
  v72 := Tryd.zeroValue87
  t127 := Tryd.underlying132
  a127 := Tryd.isAgg132
  z127 := Tryd.sizeOf132
  v127 := Tryd.zeroValue132 }
theorem Tryd.Builder_Extra_169 : Builder.Extra Tryd.prog Tryd.lays169_ren := {
  sizeBuilder := by kernel_rfl
  liesBuilder := by kernel_rfl
  t5 := Tryd.underlying5
  a5 := Tryd.isAgg5
  z5 := Tryd.sizeOf5
  v5 := Tryd.zeroValue5
  infoByte := by kernel_rfl
  cellsByte := by kernel_rfl
  sizeByte := by kernel_rfl
  neB5 := by decide }
open Go.RowKit in
theorem Tryd.Builder_String_any (B b : Nat) (l : List UInt8) (w : World) (h : Lib.IsBuilder 87 5 B b (Lib.byteCells l) w) (hBw : B ≤ w.heap.size) :
    Calls Tryd.prog 41 #[.pointer (some ⟨b, 0, none⟩)] w fun e w' => e = .returned (.string ⟨l.toArray⟩) ∧ Below B w w' := Any.Builder_String_any Tryd.lays169 Tryd.Builder_Extra_169 B b l w h hBw
end Go.Proofs


/- Contracts of Go's library at this translation: laid by the shelf's lay-shelf.mjs and lay-plain.mjs, those that this session's claims use. -/
namespace Go.Proofs
open Go.Shelf
set_option linter.unusedVariables false
def Tryd.laysM173_ren : Go.Shelf.Ren := ⟨fun | 173 => 39 | 246 => 76 | 283 => 97 | 284 => 98 | 285 => 99 | 286 => 100 | 129 => 121 | 317 => 120 | 318 => 122 | 319 => 123 | 320 => 124 | 337 => 132 | 338 => 133 | n => n, fun | 2 => 2 | 3 => 3 | 9 => 9 | 4 => 4 | 171 => 153 | 0 => 0 | 53 => 22 | 37 => 41 | 5 => 5 | 173 => 156 | 212 => 171 | 51 => 138 | 20 => 20 | 213 => 172 | 46 => 100 | 232 => 197 | 233 => 198 | n => n, fun | 17 => 0 | 18 => 3 | 19 => 4 | n => n⟩
theorem Tryd.laysM173 : Go.Proofs.LaysM.n173 Tryd.prog Tryd.laysM173_ren := {
  mixed := by kernel_rfl
  f129 := Tryd.func121.trans (congrArg some (by kernel_rfl))
  f173 := Tryd.func39.trans (congrArg some (by kernel_rfl))
  f246 := Tryd.func76.trans (congrArg some (by kernel_rfl))
  f283 := Tryd.func97.trans (congrArg some (by kernel_rfl))
  f284 := Tryd.func98.trans (congrArg some (by kernel_rfl))
  f285 := Tryd.func99.trans (congrArg some (by kernel_rfl))
  f286 := Tryd.func100.trans (congrArg some (by kernel_rfl))
  f317 := Tryd.func120.trans (congrArg some (by kernel_rfl))
  f318 := Tryd.func122.trans (congrArg some (by kernel_rfl))
  f319 := Tryd.func123.trans (congrArg some (by kernel_rfl))
  f320 := Tryd.func124.trans (congrArg some (by kernel_rfl))
  f337 := Tryd.func132.trans (congrArg some (by kernel_rfl))
  f338 := Tryd.func133.trans (congrArg some (by kernel_rfl))
  t0 := Tryd.underlying0
  a0 := Tryd.isAgg0
  z0 := Tryd.sizeOf0
  v0 := Tryd.zeroValue0
  t2 := Tryd.underlying2
  a2 := Tryd.isAgg2
  z2 := Tryd.sizeOf2
  v2 := Tryd.zeroValue2
  t3 := Tryd.underlying3
  a3 := Tryd.isAgg3
  z3 := Tryd.sizeOf3
  v3 := Tryd.zeroValue3
  t4 := Tryd.underlying4
  a4 := Tryd.isAgg4
  z4 := Tryd.sizeOf4
  v4 := Tryd.zeroValue4
  t5 := Tryd.underlying5
  a5 := Tryd.isAgg5
  z5 := Tryd.sizeOf5
  v5 := Tryd.zeroValue5
  t9 := Tryd.underlying9
  a9 := Tryd.isAgg9
  z9 := Tryd.sizeOf9
  v9 := Tryd.zeroValue9
  t20 := Tryd.underlying20
  a20 := Tryd.isAgg20
  z20 := Tryd.sizeOf20
  v20 := Tryd.zeroValue20
  t37 := Tryd.underlying41
  a37 := Tryd.isAgg41
  z37 := Tryd.sizeOf41
  v37 := Tryd.zeroValue41
  t46 := Tryd.underlying100
  a46 := Tryd.isAgg100
  z46 := Tryd.sizeOf100
  v46 := Tryd.zeroValue100
  t51 := Tryd.underlying138
  a51 := Tryd.isAgg138
  z51 := Tryd.sizeOf138
  v51 := Tryd.zeroValue138
  t53 := Tryd.underlying22
  a53 := Tryd.isAgg22
  z53 := Tryd.sizeOf22
  v53 := Tryd.zeroValue22
  t171 := Tryd.underlying153
  a171 := Tryd.isAgg153
  z171 := Tryd.sizeOf153
  v171 := Tryd.zeroValue153
  t173 := Tryd.underlying156
  a173 := Tryd.isAgg156
  z173 := Tryd.sizeOf156
  v173 := Tryd.zeroValue156
  t212 := Tryd.underlying171
  a212 := Tryd.isAgg171
  z212 := Tryd.sizeOf171
  v212 := Tryd.zeroValue171
  t213 := Tryd.underlying172
  a213 := Tryd.isAgg172
  z213 := Tryd.sizeOf172
  t232 := Tryd.underlying197
  a232 := Tryd.isAgg197
  z232 := Tryd.sizeOf197
  v232 := Tryd.zeroValue197
  t233 := Tryd.underlying198
  a233 := Tryd.isAgg198
  z233 := Tryd.sizeOf198
  v233 := Tryd.zeroValue198
  g17 := by kernel_rfl
  g18 := by kernel_rfl
  g19 := by kernel_rfl
  i0 := by kernel_rfl
  i2 := by kernel_rfl
  i3 := by kernel_rfl
  i4 := by kernel_rfl
  i5 := by kernel_rfl
  i9 := by kernel_rfl
  i20 := by kernel_rfl
  i37 := by kernel_rfl
  i46 := by kernel_rfl
  i51 := by kernel_rfl
  i53 := by kernel_rfl
  i171 := by kernel_rfl
  i173 := by kernel_rfl
  i212 := by kernel_rfl
  i232 := by kernel_rfl
  i233 := by kernel_rfl
  m17 := by kernel_rfl
  m18 := by kernel_rfl
  m19 := by kernel_rfl }
open Go.RowKit Go.Sort Go.Lib in
theorem Tryd.strconv_FormatInt_10 (n : Int) (h0 : -9223372036854775808 ≤ n) (h1 : n ≤ 9223372036854775807) (w : World) (htab : Lib.TabIs Tryd.prog w "internal/strconv.uint64pow10" .u64 Lib.pow10Tab) :
    Calls Tryd.prog 39 #[.int .i64 n, .int .i64 10] w fun e w' => e = .returned (.string ⟨(Lib.itoa n).toArray⟩) ∧ ∃ k os, w' = grow (w.drewN k) os := Any.strconv_FormatInt_10 Tryd.laysM173 n h0 h1 w htab
end Go.Proofs


namespace Go.Proofs.YtkohjiajbdkcbaaDoor.All
open Go.RowKit Go.Proofs.YtkohjiajbdkcbaaDoorW.PrintWords Go.Proofs.YtkohjiajbdkcbaaDoorW.PrintLast Go.Proofs.YtkohjiajbdkcbaaDoorW.PrintMore
attribute [local go_sem] max2_int min2_int max_two min_two max_three min_three max_four min_four   -- for this text's walks alone
set_option linter.unusedVariables false
set_option linter.unusedSimpArgs false

/-! ### impl_FormatOutcome: function 11 -/
def impl_FormatOutcome.f (a0_0 : Int) (a0_1 : Bool) (a0_2 : Int) (a0_3 : Int) (l0_4 : List Int) (a0_5 : Int) : Option (ByteArray) := if l0_4.length ≤ 1048576 then some (bsOf (outHead l0_4 ++ outTail a0_0 a0_1 a0_2 a0_3 ++ [10])) else none
theorem bld_new {w : World} {b B : Nat} (h : w.heap[b]? = some (.cells #[.pointer none, .slice none 0 0] 87 (0, 0))) (hB : B ≤ b) : Lib.IsBuilder 87 5 B b [] w :=
 Or.inl ⟨hB, .slice none 0 0, h, World.ownsRow_nil _ _ _ _, by simp [Value.ownBlock]⟩
theorem i64_64 (x : Int) : -9223372036854775808 ≤ wrap64 x ∧ wrap64 x ≤ 9223372036854775807 := by unfold wrap64; omega
theorem itoa_len (x : Int) : (Lib.itoa (wrap64 x)).length ≤ 21 := Lib.itoa_length_le _ (i64_64 x).1 (i64_64 x).2
set_option maxRecDepth 100000 in
theorem impl_FormatOutcome.num (v : Int) (w : World) (ht : LtTab w) :
 Calls Tryd.prog 38 #[.int .u64 v] w fun e w' => e = .returned (.string (bsOf (Lib.itoa (wrap64 v)))) ∧ Below w.heap.size w w' := by
 have HT := Aside0.mk ht
 clear ht
 go_enter Tryd.func38, Tryd.ntmps38
 go_wp2_with (go_at_call 39; refine (Tryd.strconv_FormatInt_10 (wrap64 v) (i64_64 v).1 (i64_64 v).2 _ HT.out.here).mono ?_; rintro e w' ⟨rfl, q, os, rfl⟩)
 go_ret
 exact ⟨rfl, below_grow _ _ _⟩
theorem fo_cells (a b c : List UInt8) : ((bsOf a ++ bsOf b) ++ bsOf c).data.toList = a ++ b ++ c := by
 rw [bsOf_append, bsOf_append]
 rfl
theorem fo_measure (n m : Nat) (h : m < n) (hn : n ≤ 1048576) : n - (intOf (.int .i64 (wrap64 ((m : Int) + 1)))).toNat < n - (intOf (.int .i64 (m : Int))).toNat := by
 have e : wrap64 ((m : Int) + 1) = ((m + 1 : Nat) : Int) := by unfold wrap64; omega
 rw [e]
 show n - ((m + 1 : Nat) : Int).toNat < n - ((m : Nat) : Int).toNat
 rw [Int.toNat_natCast, Int.toNat_natCast]
 omega
theorem bld_app {s : List UInt8} {t : ByteArray} {B b : Nat} {w : World} {p : Value} (h : Lib.BuilderAt 87 5 B b p (Lib.byteCells s ++ Lib.strCells t) w) (hp : p = .pointer (some ⟨b, 0, none⟩)) : Lib.IsBuilder 87 5 B b (Lib.byteCells (s ++ t.data.toList)) w := by
 subst hp
 refine Or.inr ?_
 rw [Lib.byteCells_append]
 exact h
theorem outHead_len : ∀ (l : List Int), (outHead l).length ≤ 28 * l.length
 | [] => Nat.le_refl _
 | x :: l => by
  have h1 := outHead_len l
  have h2 := itoa_len x
  unfold outHead at h1 ⊢
  simp only [List.flatMap_cons, List.length_append, List.length_cons, List.length_nil] at h1 ⊢
  omega
theorem bld_below {B b : Nat} {bs : List Value} {w w' : World} (h : Lib.IsBuilder 87 5 B b bs w) (hb : Below w.heap.size w w') : Lib.IsBuilder 87 5 B b bs w' := by
 have key : ∀ p, Lib.BuilderAt 87 5 B b p bs w → Lib.BuilderAt 87 5 B b p bs w' := by
  rintro p ⟨hB, v, hv, hown, hne⟩
  exact ⟨hB, v, blk_below hv hb, hown.kept (grown_of_below hb (some b)) (Or.inr hne), hne⟩
 rcases h with h | h
 · exact Or.inl (key _ h)
 · exact Or.inr (key _ h)
set_option maxHeartbeats 8000000 in
set_option maxRecDepth 100000 in
theorem impl_FormatOutcome.calls (a0_0 : Int) (a0_1 : Bool) (a0_2 : Int) (a0_3 : Int) (A0_4 : Option Addr) (c0_4 : Nat) (l0_4 : List Int) (a0_5 : Int) (r : ByteArray) (w : World) (ht : LtTab w) (hr0_4 : Kd.C (Kd.int .u64) w A0_4 l0_4.length l0_4) (hc0_4 : l0_4.length ≤ c0_4) (h : impl_FormatOutcome.f a0_0 a0_1 a0_2 a0_3 l0_4 a0_5 = some r) :
 Calls Tryd.prog 11 #[.agg #[.int .i64 a0_0, .bool a0_1, .int .i64 a0_2, .int .u64 a0_3, .slice A0_4 l0_4.length c0_4, .int .i64 a0_5]] w fun e w' => e = .returned (.string r) ∧ Below w.heap.size w w' := by
 unfold impl_FormatOutcome.f at h
 by_cases hl : l0_4.length ≤ 1048576
 rotate_left
 · rw [if_neg hl] at h; cases h
 rw [if_pos hl] at h
 obtain rfl := Option.some.inj h
 clear h
 have HT := Aside0.mk ht
 have HR := Aside0.mk hr0_4
 have HB := Aside0.mk (Below.refl w.heap.size w)
 have HL := Aside0.mk hl
 clear ht hr0_4 hc0_4
 have hu := Tryd.underlying32
 have hu2 := Tryd.underlying87
 go_enter Tryd.func11, Tryd.ntmps11
 go_wp2_with (first | ((with_reducible refine gate_dst (N := 1) rfl ?_); refine box_event ?hg (N := 1) ?hd (cs := #[.int .i64 a0_0, .bool a0_1, .int .i64 a0_2, .int .u64 a0_3, .slice A0_4 l0_4.length c0_4, .int .i64 a0_5]) (t := 32) ?hr ?_; (case hd => rfl); (case hg => rfl); (case hr => first | (go_simp; done) | (go_simp; rfl)); intro gx hg w1 hbox hb; have n0_ := Aside0.mk (below_step HB.out hb); have BX := Aside0.mk hbox; have GX := Aside0.mk (blk_lt hbox); clear HB; have HB := n0_; clear n0_; clear hb hbox hg) | ((with_reducible refine gate_dst (N := 3) rfl ?_); refine box_event ?hg (N := 3) ?hd (cs := #[.pointer none, .slice none 0 0]) (t := 87) ?hr ?_; (case hd => rfl); (case hg => rfl); (case hr => first | (go_simp; done) | (go_simp; rfl)); intro gb hg w2 hbox hb; have BI := Aside0.mk (bld_new (B := gb) hbox (Nat.le_refl _)); have LT := Aside0.mk (show gx < gb from by rw [hg]; exact GX.out); have BS := Aside0.mk (blk_lt hbox); have n0_ := Aside0.mk (below_step HB.out hb); have n1_ := Aside0.mk (blk_below BX.out hb); have GB := Aside0.mk (show w.heap.size ≤ gb from by rw [hg]; exact HB.out.size); clear HB BX; have HB := n0_; have BX := n1_; clear n0_ n1_; clear hb hbox hg; have hcx0 : w2.cell? ⟨gx, 0, none⟩ = some (.int .i64 a0_0) := (blk_cell BX.out 0).trans rfl; have hcx1 : w2.cell? ⟨gx, 1, none⟩ = some (.bool a0_1) := (blk_cell BX.out 1).trans rfl; have hcx2 : w2.cell? ⟨gx, 2, none⟩ = some (.int .i64 a0_2) := (blk_cell BX.out 2).trans rfl; have hcx3 : w2.cell? ⟨gx, 3, none⟩ = some (.int .u64 a0_3) := (blk_cell BX.out 3).trans rfl; have hcx4 : w2.cell? ⟨gx, 4, none⟩ = some (.slice A0_4 l0_4.length c0_4) := (blk_cell BX.out 4).trans rfl; have hcx5 : w2.cell? ⟨gx, 5, none⟩ = some (.int .i64 a0_5) := (blk_cell BX.out 5).trans rfl))
 go_loopw [11] (fun v11 w' => ∃ m : Nat, m ≤ l0_4.length ∧ v11 = .int .i64 (m : Int) ∧ Aside0 (Lib.IsBuilder 87 5 gb gb (Lib.byteCells (outHead (l0_4.take m))) w') ∧ Aside0 (gb < w'.heap.size) ∧ Aside0 (Below w.heap.size w w') ∧ Aside0 (w'.heap[gx]? = some (.cells #[.int .i64 a0_0, .bool a0_1, .int .i64 a0_2, .int .u64 a0_3, .slice A0_4 l0_4.length c0_4, .int .i64 a0_5] 32 (0, 0)))) (fun v11 _ => l0_4.length - (intOf v11).toNat)
 case atStart => exact ⟨0, Nat.zero_le _, rfl, BI, BS, HB, BX⟩
 case round =>
  clear BI BS HB BX hcx0 hcx1 hcx2 hcx3 hcx4 hcx5
  obtain ⟨m, hm, rfl, BI, BS, HB, BX⟩ := hrel
  have hcx0 : wr.cell? ⟨gx, 0, none⟩ = some (.int .i64 a0_0) := (blk_cell BX.out 0).trans rfl
  have hcx1 : wr.cell? ⟨gx, 1, none⟩ = some (.bool a0_1) := (blk_cell BX.out 1).trans rfl
  have hcx2 : wr.cell? ⟨gx, 2, none⟩ = some (.int .i64 a0_2) := (blk_cell BX.out 2).trans rfl
  have hcx3 : wr.cell? ⟨gx, 3, none⟩ = some (.int .u64 a0_3) := (blk_cell BX.out 3).trans rfl
  have hcx4 : wr.cell? ⟨gx, 4, none⟩ = some (.slice A0_4 l0_4.length c0_4) := (blk_cell BX.out 4).trans rfl
  have hcx5 : wr.cell? ⟨gx, 5, none⟩ = some (.int .i64 a0_5) := (blk_cell BX.out 5).trans rfl
  by_cases hlt : m < l0_4.length
  · have hrd := Kd.reads_of_C (d := (0 : Int)) (Kd.C_below HR.out HB.out)
    obtain ⟨ad, e3, hb3⟩ := ReadsInt.at_ (k := .u64) hrd (m : Int) (by omega) (by omega)
    subst e3
    clear hrd
    obtain ⟨q, hq⟩ : ∃ q, q = l0_4[m] := ⟨_, rfl⟩
    have hrb : rd l0_4 (m : Int) = q := by rw [hq]; simp [rd, List.getElem?_eq_getElem hlt]
    rw [hrb, Int.toNat_natCast] at hb3
    have hsuc := outHead_succ l0_4 m hlt
    rw [← hq] at hsuc
    have HS := Aside0.mk hsuc
    have HN := Aside0.mk (itoa_len q)
    have HO := Aside0.mk (Nat.le_trans (outHead_len (l0_4.take m)) (Nat.mul_le_mul_left 28 (Nat.le_trans (List.length_take_le _ _) hm)))
    obtain ⟨tx, htx⟩ : ∃ tx, tx = bsOf (Lib.itoa (wrap64 q)) := ⟨_, rfl⟩
    have hts : tx.size ≤ 21 := by rw [htx]; simpa [bsOf, ByteArray.size] using HN.out
    have HX := Aside0.mk htx
    have HZ := Aside0.mk hts
    have z0 : (6 + tx.size ≤ 9223372036854775807) = True := eq_true (by omega)
    have z1 : (6 + tx.size + 1 ≤ 9223372036854775807) = True := eq_true (by omega)
    have z2 : (9223372036854775807 < 6 + tx.size) = False := eq_false (by omega)
    have z3 : (9223372036854775807 < 6 + tx.size + 1) = False := eq_false (by omega)
    have c1 : decide ((m : Int) < (l0_4.length : Int)) = true := decide_eq_true (by omega)
    have HLT := Aside0.mk hlt
    clear hsuc hrb hq htx hts hl
    go_wp2_with (first | (go_at_call 38; (with_reducible refine (impl_FormatOutcome.num q _ ?tT).mono ?_); (case tT => exact HT.out.on (by repeat (first | (with_reducible first | exact HB.out | apply below_alloc | apply pw_below_drewN | apply below_drew1) | exact HB.out))); rintro e w3 ⟨rfl, hb⟩; rw [← HX.out]; have n0_ := Aside0.mk (below_step HB.out hb); have n1_ := Aside0.mk (blk_below BX.out hb); have n2_ := Aside0.mk (bld_below BI.out hb); have n3_ := Aside0.mk (Nat.lt_of_lt_of_le BS.out hb.size); clear HB BX BI BS hb; have HB := n0_; have BX := n1_; have BI := n2_; have BS := n3_; clear n0_ n1_ n2_ n3_) | (go_at_call 40; (with_reducible refine (bld_WriteString gb gb (Lib.byteCells (outHead (l0_4.take m))) (((⟨#[112, 114, 105, 110, 116, 32]⟩ : ByteArray) ++ tx) ++ (⟨#[10]⟩ : ByteArray)) _ BI.out ?wl ?wb).mono ?_); (case wl => have h1_ := HO.out; have h2_ := HZ.out; have h3_ := HL.out; simp only [Lib.byteCells_length, ByteArray.size_append]; show _ + (6 + tx.size + 1) ≤ _; omega); (case wb => exact Nat.le_of_lt BS.out); rintro e w4 ⟨rfl, hat, hb⟩; have n0_ := Aside0.mk (HB.out.trans (hb.mono GB.out)); have n1_ := Aside0.mk ((hb.block gx LT.out).trans BX.out); have n2_ := Aside0.mk (bld_app hat rfl); have n3_ := Aside0.mk (Nat.lt_of_lt_of_le BS.out hb.size); clear HB BX BI BS hb hat; have HB := n0_; have BX := n1_; have BI := n2_; have BS := n3_; clear n0_ n1_ n2_ n3_))
    go_roundw
    case measure => exact fo_measure _ _ HLT.out HL.out
    case rel => exact ⟨m + 1, HLT.out, by (have := HLT.out; have := HL.out; refine congrArg _ ?_; unfold wrap64; omega), ⟨by have h1_ := BI.out; rw [HX.out] at h1_; rw [HS.out, ← fo_cells]; exact h1_⟩, BS, HB, BX⟩
  · have e : l0_4.take m = l0_4 := List.take_of_length_le (by omega)
    rw [e] at BI
    have hlf : decide ((m : Int) < (l0_4.length : Int)) = false := decide_eq_false (by omega)
    have hlg : decide (m < l0_4.length) = false := decide_eq_false hlt
    have HO := Aside0.mk (outHead_len l0_4)
    clear e hm hl
    obtain ⟨sx, hsx⟩ : ∃ sx, ({ data := (outHead l0_4).toArray } : ByteArray) = sx := ⟨_, rfl⟩
    have hss : sx.size ≤ 29360128 := by have h1_ := HO.out; have h2_ := HL.out; rw [← hsx]; simp only [ByteArray.size, List.size_toArray]; omega
    have HSX := Aside0.mk hsx
    have HSS := Aside0.mk hss
    clear hsx hss
    by_cases e0 : a0_0 = 0
    · subst e0
      obtain ⟨tx, htx⟩ : ∃ tx, tx = bsOf (Lib.itoa (wrap64 a0_3)) := ⟨_, rfl⟩
      have hts : tx.size ≤ 21 := by have h_ := itoa_len a0_3; rw [htx]; simpa [bsOf, ByteArray.size] using h_
      have HX := Aside0.mk htx
      have HZ := Aside0.mk hts
      have z0 : (7 + tx.size ≤ 9223372036854775807) = True := eq_true (by omega)
      have z1 : (9223372036854775807 < 7 + tx.size) = False := eq_false (by omega)
      clear htx hts
      cases a0_1 with
      | true =>
       have y0 : (sx.size + 13 ≤ 9223372036854775807) = True := eq_true (by have := HSS.out; omega)
       have y1 : (9223372036854775807 < sx.size + 13) = False := eq_false (by have := HSS.out; omega)
       have y2 : (sx.size + 13 + 1 ≤ 9223372036854775807) = True := eq_true (by have := HSS.out; omega)
       have y3 : (9223372036854775807 < sx.size + 13 + 1) = False := eq_false (by have := HSS.out; omega)
       go_wp2_with (first | (go_at_call 41; (with_reducible refine (Tryd.Builder_String_any gb gb (outHead l0_4) _ BI.out ?sb).mono ?_); (case sb => exact Nat.le_of_lt BS.out); rintro e w6 ⟨rfl, hb⟩; rw [HSX.out]; have n0_ := Aside0.mk (HB.out.trans (hb.mono GB.out)); clear HB BX BI BS hb; have HB := n0_; clear n0_) | (go_at_call 38; (with_reducible refine (impl_FormatOutcome.num a0_3 _ ?tT).mono ?_); (case tT => exact HT.out.on (by repeat (first | (with_reducible first | exact HB.out | apply below_alloc | apply pw_below_drewN | apply below_drew1) | exact HB.out))); rintro e w5 ⟨rfl, hb⟩; rw [← HX.out]; have n0_ := Aside0.mk (below_step HB.out hb); have n1_ := Aside0.mk (blk_below BX.out hb); have n2_ := Aside0.mk (bld_below BI.out hb); have n3_ := Aside0.mk (Nat.lt_of_lt_of_le BS.out hb.size); clear HB BX BI BS hb; have HB := n0_; have BX := n1_; have BI := n2_; have BS := n3_; clear n0_ n1_ n2_ n3_; have hcy0 : w5.cell? ⟨gx, 0, none⟩ = some (.int .i64 0) := (blk_cell BX.out 0).trans rfl; have hcy1 : w5.cell? ⟨gx, 1, none⟩ = some (.bool true) := (blk_cell BX.out 1).trans rfl; have hcy2 : w5.cell? ⟨gx, 2, none⟩ = some (.int .i64 a0_2) := (blk_cell BX.out 2).trans rfl; have hcy3 : w5.cell? ⟨gx, 3, none⟩ = some (.int .u64 a0_3) := (blk_cell BX.out 3).trans rfl; have hcy4 : w5.cell? ⟨gx, 4, none⟩ = some (.slice A0_4 l0_4.length c0_4) := (blk_cell BX.out 4).trans rfl; have hcy5 : w5.cell? ⟨gx, 5, none⟩ = some (.int .i64 a0_5) := (blk_cell BX.out 5).trans rfl))
       go_ret
       exact ⟨congrArg Ending.returned (congrArg Value.string (by rw [← HSX.out]; unfold outTail; rw [← bsOf_append, ← bsOf_append]; rfl)), HB.out⟩
      | false =>
       by_cases ob : a0_2 = 0
       · subst ob
         have y0 : (sx.size + (7 + tx.size) ≤ 9223372036854775807) = True := eq_true (by have := HSS.out; have := HZ.out; omega)
         have y1 : (9223372036854775807 < sx.size + (7 + tx.size)) = False := eq_false (by have := HSS.out; have := HZ.out; omega)
         have y2 : (sx.size + (7 + tx.size) + 1 ≤ 9223372036854775807) = True := eq_true (by have := HSS.out; have := HZ.out; omega)
         have y3 : (9223372036854775807 < sx.size + (7 + tx.size) + 1) = False := eq_false (by have := HSS.out; have := HZ.out; omega)
         go_wp2_with (first | (go_at_call 41; (with_reducible refine (Tryd.Builder_String_any gb gb (outHead l0_4) _ BI.out ?sb).mono ?_); (case sb => exact Nat.le_of_lt BS.out); rintro e w6 ⟨rfl, hb⟩; rw [HSX.out]; have n0_ := Aside0.mk (HB.out.trans (hb.mono GB.out)); clear HB BX BI BS hb; have HB := n0_; clear n0_) | (go_at_call 38; (with_reducible refine (impl_FormatOutcome.num a0_3 _ ?tT).mono ?_); (case tT => exact HT.out.on (by repeat (first | (with_reducible first | exact HB.out | apply below_alloc | apply pw_below_drewN | apply below_drew1) | exact HB.out))); rintro e w5 ⟨rfl, hb⟩; rw [← HX.out]; have n0_ := Aside0.mk (below_step HB.out hb); have n1_ := Aside0.mk (blk_below BX.out hb); have n2_ := Aside0.mk (bld_below BI.out hb); have n3_ := Aside0.mk (Nat.lt_of_lt_of_le BS.out hb.size); clear HB BX BI BS hb; have HB := n0_; have BX := n1_; have BI := n2_; have BS := n3_; clear n0_ n1_ n2_ n3_; have hcy0 : w5.cell? ⟨gx, 0, none⟩ = some (.int .i64 0) := (blk_cell BX.out 0).trans rfl; have hcy1 : w5.cell? ⟨gx, 1, none⟩ = some (.bool false) := (blk_cell BX.out 1).trans rfl; have hcy2 : w5.cell? ⟨gx, 2, none⟩ = some (.int .i64 0) := (blk_cell BX.out 2).trans rfl; have hcy3 : w5.cell? ⟨gx, 3, none⟩ = some (.int .u64 a0_3) := (blk_cell BX.out 3).trans rfl; have hcy4 : w5.cell? ⟨gx, 4, none⟩ = some (.slice A0_4 l0_4.length c0_4) := (blk_cell BX.out 4).trans rfl; have hcy5 : w5.cell? ⟨gx, 5, none⟩ = some (.int .i64 a0_5) := (blk_cell BX.out 5).trans rfl))
         go_ret
         exact ⟨congrArg Ending.returned (congrArg Value.string (by rw [← HSX.out]; unfold outTail; rw [HX.out]; rw [show (⟨#[114, 101, 116, 117, 114, 110, 32]⟩ : ByteArray) ++ bsOf (Lib.itoa (wrap64 a0_3)) = bsOf ([114, 101, 116, 117, 114, 110, 32] ++ Lib.itoa (wrap64 a0_3)) from bsOf_append [114, 101, 116, 117, 114, 110, 32] _]; rw [← bsOf_append, ← bsOf_append]; rfl)), HB.out⟩
       · have o1 : (a0_2 == 0) = false := beq_eq_false_iff_ne.mpr ob
         have o2 : (a0_2 != 0) = true := by rw [bne_iff_ne]; exact ob
         have OB := Aside0.mk ob
         clear ob
         have y0 : (sx.size + 14 ≤ 9223372036854775807) = True := eq_true (by have := HSS.out; omega)
         have y1 : (9223372036854775807 < sx.size + 14) = False := eq_false (by have := HSS.out; omega)
         have y2 : (sx.size + 14 + 1 ≤ 9223372036854775807) = True := eq_true (by have := HSS.out; omega)
         have y3 : (9223372036854775807 < sx.size + 14 + 1) = False := eq_false (by have := HSS.out; omega)
         go_wp2_with (first | (go_at_call 41; (with_reducible refine (Tryd.Builder_String_any gb gb (outHead l0_4) _ BI.out ?sb).mono ?_); (case sb => exact Nat.le_of_lt BS.out); rintro e w6 ⟨rfl, hb⟩; rw [HSX.out]; have n0_ := Aside0.mk (HB.out.trans (hb.mono GB.out)); clear HB BX BI BS hb; have HB := n0_; clear n0_) | (go_at_call 38; (with_reducible refine (impl_FormatOutcome.num a0_3 _ ?tT).mono ?_); (case tT => exact HT.out.on (by repeat (first | (with_reducible first | exact HB.out | apply below_alloc | apply pw_below_drewN | apply below_drew1) | exact HB.out))); rintro e w5 ⟨rfl, hb⟩; rw [← HX.out]; have n0_ := Aside0.mk (below_step HB.out hb); have n1_ := Aside0.mk (blk_below BX.out hb); have n2_ := Aside0.mk (bld_below BI.out hb); have n3_ := Aside0.mk (Nat.lt_of_lt_of_le BS.out hb.size); clear HB BX BI BS hb; have HB := n0_; have BX := n1_; have BI := n2_; have BS := n3_; clear n0_ n1_ n2_ n3_; have hcy0 : w5.cell? ⟨gx, 0, none⟩ = some (.int .i64 0) := (blk_cell BX.out 0).trans rfl; have hcy1 : w5.cell? ⟨gx, 1, none⟩ = some (.bool false) := (blk_cell BX.out 1).trans rfl; have hcy2 : w5.cell? ⟨gx, 2, none⟩ = some (.int .i64 a0_2) := (blk_cell BX.out 2).trans rfl; have hcy3 : w5.cell? ⟨gx, 3, none⟩ = some (.int .u64 a0_3) := (blk_cell BX.out 3).trans rfl; have hcy4 : w5.cell? ⟨gx, 4, none⟩ = some (.slice A0_4 l0_4.length c0_4) := (blk_cell BX.out 4).trans rfl; have hcy5 : w5.cell? ⟨gx, 5, none⟩ = some (.int .i64 a0_5) := (blk_cell BX.out 5).trans rfl))
         go_ret
         exact ⟨congrArg Ending.returned (congrArg Value.string (by rw [← HSX.out]; unfold outTail; rw [if_pos rfl, if_neg (by decide), if_neg OB.out]; rw [← bsOf_append, ← bsOf_append]; rfl)), HB.out⟩
    by_cases e1 : a0_0 = 1
    · subst e1
      clear e0
      have y0 : (sx.size + 4 ≤ 9223372036854775807) = True := eq_true (by have := HSS.out; omega)
      have y1 : (9223372036854775807 < sx.size + 4) = False := eq_false (by have := HSS.out; omega)
      have y2 : (sx.size + 4 + 1 ≤ 9223372036854775807) = True := eq_true (by have := HSS.out; omega)
      have y3 : (9223372036854775807 < sx.size + 4 + 1) = False := eq_false (by have := HSS.out; omega)
      go_wp2_with (first | (go_at_call 41; (with_reducible refine (Tryd.Builder_String_any gb gb (outHead l0_4) _ BI.out ?sb).mono ?_); (case sb => exact Nat.le_of_lt BS.out); rintro e w6 ⟨rfl, hb⟩; rw [HSX.out]; have n0_ := Aside0.mk (HB.out.trans (hb.mono GB.out)); clear HB BX BI BS hb; have HB := n0_; clear n0_))
      go_ret
      exact ⟨congrArg Ending.returned (congrArg Value.string (by rw [← HSX.out]; unfold outTail; rw [← bsOf_append, ← bsOf_append]; rfl)), HB.out⟩
    by_cases e2 : a0_0 = 2
    · subst e2
      clear e0 e1
      have y0 : (sx.size + 9 ≤ 9223372036854775807) = True := eq_true (by have := HSS.out; omega)
      have y1 : (9223372036854775807 < sx.size + 9) = False := eq_false (by have := HSS.out; omega)
      have y2 : (sx.size + 9 + 1 ≤ 9223372036854775807) = True := eq_true (by have := HSS.out; omega)
      have y3 : (9223372036854775807 < sx.size + 9 + 1) = False := eq_false (by have := HSS.out; omega)
      go_wp2_with (first | (go_at_call 41; (with_reducible refine (Tryd.Builder_String_any gb gb (outHead l0_4) _ BI.out ?sb).mono ?_); (case sb => exact Nat.le_of_lt BS.out); rintro e w6 ⟨rfl, hb⟩; rw [HSX.out]; have n0_ := Aside0.mk (HB.out.trans (hb.mono GB.out)); clear HB BX BI BS hb; have HB := n0_; clear n0_))
      go_ret
      exact ⟨congrArg Ending.returned (congrArg Value.string (by rw [← HSX.out]; unfold outTail; rw [← bsOf_append, ← bsOf_append]; rfl)), HB.out⟩
    by_cases e3 : a0_0 = 3
    · subst e3
      clear e0 e1 e2
      have y0 : (sx.size + 5 ≤ 9223372036854775807) = True := eq_true (by have := HSS.out; omega)
      have y1 : (9223372036854775807 < sx.size + 5) = False := eq_false (by have := HSS.out; omega)
      have y2 : (sx.size + 5 + 1 ≤ 9223372036854775807) = True := eq_true (by have := HSS.out; omega)
      have y3 : (9223372036854775807 < sx.size + 5 + 1) = False := eq_false (by have := HSS.out; omega)
      go_wp2_with (first | (go_at_call 41; (with_reducible refine (Tryd.Builder_String_any gb gb (outHead l0_4) _ BI.out ?sb).mono ?_); (case sb => exact Nat.le_of_lt BS.out); rintro e w6 ⟨rfl, hb⟩; rw [HSX.out]; have n0_ := Aside0.mk (HB.out.trans (hb.mono GB.out)); clear HB BX BI BS hb; have HB := n0_; clear n0_))
      go_ret
      exact ⟨congrArg Ending.returned (congrArg Value.string (by rw [← HSX.out]; unfold outTail; rw [← bsOf_append, ← bsOf_append]; rfl)), HB.out⟩
    by_cases e4 : a0_0 = 4
    · subst e4
      clear e0 e1 e2 e3
      have y0 : (sx.size + 5 ≤ 9223372036854775807) = True := eq_true (by have := HSS.out; omega)
      have y1 : (9223372036854775807 < sx.size + 5) = False := eq_false (by have := HSS.out; omega)
      have y2 : (sx.size + 5 + 1 ≤ 9223372036854775807) = True := eq_true (by have := HSS.out; omega)
      have y3 : (9223372036854775807 < sx.size + 5 + 1) = False := eq_false (by have := HSS.out; omega)
      go_wp2_with (first | (go_at_call 41; (with_reducible refine (Tryd.Builder_String_any gb gb (outHead l0_4) _ BI.out ?sb).mono ?_); (case sb => exact Nat.le_of_lt BS.out); rintro e w6 ⟨rfl, hb⟩; rw [HSX.out]; have n0_ := Aside0.mk (HB.out.trans (hb.mono GB.out)); clear HB BX BI BS hb; have HB := n0_; clear n0_))
      go_ret
      exact ⟨congrArg Ending.returned (congrArg Value.string (by rw [← HSX.out]; unfold outTail; rw [← bsOf_append, ← bsOf_append]; rfl)), HB.out⟩
    by_cases e5 : a0_0 = 5
    · subst e5
      clear e0 e1 e2 e3 e4
      have y0 : (sx.size + 6 ≤ 9223372036854775807) = True := eq_true (by have := HSS.out; omega)
      have y1 : (9223372036854775807 < sx.size + 6) = False := eq_false (by have := HSS.out; omega)
      have y2 : (sx.size + 6 + 1 ≤ 9223372036854775807) = True := eq_true (by have := HSS.out; omega)
      have y3 : (9223372036854775807 < sx.size + 6 + 1) = False := eq_false (by have := HSS.out; omega)
      go_wp2_with (first | (go_at_call 41; (with_reducible refine (Tryd.Builder_String_any gb gb (outHead l0_4) _ BI.out ?sb).mono ?_); (case sb => exact Nat.le_of_lt BS.out); rintro e w6 ⟨rfl, hb⟩; rw [HSX.out]; have n0_ := Aside0.mk (HB.out.trans (hb.mono GB.out)); clear HB BX BI BS hb; have HB := n0_; clear n0_))
      go_ret
      exact ⟨congrArg Ending.returned (congrArg Value.string (by rw [← HSX.out]; unfold outTail; rw [← bsOf_append, ← bsOf_append]; rfl)), HB.out⟩
    by_cases e6 : a0_0 = 6
    · subst e6
      clear e0 e1 e2 e3 e4 e5
      have y0 : (sx.size + 7 ≤ 9223372036854775807) = True := eq_true (by have := HSS.out; omega)
      have y1 : (9223372036854775807 < sx.size + 7) = False := eq_false (by have := HSS.out; omega)
      have y2 : (sx.size + 7 + 1 ≤ 9223372036854775807) = True := eq_true (by have := HSS.out; omega)
      have y3 : (9223372036854775807 < sx.size + 7 + 1) = False := eq_false (by have := HSS.out; omega)
      go_wp2_with (first | (go_at_call 41; (with_reducible refine (Tryd.Builder_String_any gb gb (outHead l0_4) _ BI.out ?sb).mono ?_); (case sb => exact Nat.le_of_lt BS.out); rintro e w6 ⟨rfl, hb⟩; rw [HSX.out]; have n0_ := Aside0.mk (HB.out.trans (hb.mono GB.out)); clear HB BX BI BS hb; have HB := n0_; clear n0_))
      go_ret
      exact ⟨congrArg Ending.returned (congrArg Value.string (by rw [← HSX.out]; unfold outTail; rw [← bsOf_append, ← bsOf_append]; rfl)), HB.out⟩
    have f0 : (a0_0 == 0) = false := beq_eq_false_iff_ne.mpr e0
    have f1 : (a0_0 == 1) = false := beq_eq_false_iff_ne.mpr e1
    have f2 : (a0_0 == 2) = false := beq_eq_false_iff_ne.mpr e2
    have f3 : (a0_0 == 3) = false := beq_eq_false_iff_ne.mpr e3
    have f4 : (a0_0 == 4) = false := beq_eq_false_iff_ne.mpr e4
    have f5 : (a0_0 == 5) = false := beq_eq_false_iff_ne.mpr e5
    have f6 : (a0_0 == 6) = false := beq_eq_false_iff_ne.mpr e6
    have EE := Aside0.mk (⟨e0, e1, e2, e3, e4, e5, e6⟩ : a0_0 ≠ 0 ∧ a0_0 ≠ 1 ∧ a0_0 ≠ 2 ∧ a0_0 ≠ 3 ∧ a0_0 ≠ 4 ∧ a0_0 ≠ 5 ∧ a0_0 ≠ 6)
    clear e0 e1 e2 e3 e4 e5 e6
    have y0 : (sx.size + 3 ≤ 9223372036854775807) = True := eq_true (by have := HSS.out; omega)
    have y1 : (9223372036854775807 < sx.size + 3) = False := eq_false (by have := HSS.out; omega)
    have y2 : (sx.size + 3 + 1 ≤ 9223372036854775807) = True := eq_true (by have := HSS.out; omega)
    have y3 : (9223372036854775807 < sx.size + 3 + 1) = False := eq_false (by have := HSS.out; omega)
    go_wp2_with (first | (go_at_call 41; (with_reducible refine (Tryd.Builder_String_any gb gb (outHead l0_4) _ BI.out ?sb).mono ?_); (case sb => exact Nat.le_of_lt BS.out); rintro e w6 ⟨rfl, hb⟩; rw [HSX.out]; have n0_ := Aside0.mk (HB.out.trans (hb.mono GB.out)); clear HB BX BI BS hb; have HB := n0_; clear n0_))
    go_ret
    exact ⟨congrArg Ending.returned (congrArg Value.string (by rw [← HSX.out]; unfold outTail; rw [if_neg EE.out.1, if_neg EE.out.2.1, if_neg EE.out.2.2.1, if_neg EE.out.2.2.2.1, if_neg EE.out.2.2.2.2.1, if_neg EE.out.2.2.2.2.2.1, if_neg EE.out.2.2.2.2.2.2]; rw [← bsOf_append, ← bsOf_append]; rfl)), HB.out⟩

end Go.Proofs.YtkohjiajbdkcbaaDoor.All


namespace Go.Proofs.YtkohjiajbdkcbaaDoor.All
open Go.RowKit Go.Proofs.YtkohjiajbdkcbaaDoorW.PrintWords Go.Proofs.YtkohjiajbdkcbaaDoorW.PrintLast Go.Proofs.YtkohjiajbdkcbaaDoorW.PrintMore
attribute [local go_sem] max2_int min2_int max_two min_two max_three min_three max_four min_four   -- for this text's walks alone
set_option linter.unusedVariables false
set_option linter.unusedSimpArgs false

/-! ### laws_eqUint64S: function 43 -/
def laws_eqUint64S.l0 : Nat → List Int → List Int → Int → Option (Bool)
 | 0, _, _, _ => none
 | k + 1, x0, x1, x5 => if x5 < (x0.length : Int) then (if 0 ≤ x5 then (if x5 < (x1.length : Int) then (if (rd x0 x5) = (rd x1 x5) then (laws_eqUint64S.l0 k x0 x1 (wrap64 (x5 + 1))) else (some false)) else (none)) else (none)) else (some true)
def laws_eqUint64S.f (k : Nat) (l0 : List Int) (l1 : List Int) : Option (Bool) := if (l0.length : Int) = (l1.length : Int) then (laws_eqUint64S.l0 k l0 l1 0) else (some false)
set_option maxHeartbeats 8000000 in
set_option maxRecDepth 100000 in
theorem laws_eqUint64S.calls (k : Nat) (A0 : Option Addr) (c0 : Nat) (l0 : List Int) (A1 : Option Addr) (c1 : Nat) (l1 : List Int) (r : Bool) (w : World) (hr0 : Kd.C (Kd.int .u64) w A0 l0.length l0) (hc0 : l0.length ≤ c0) (hr1 : Kd.C (Kd.int .u64) w A1 l1.length l1) (hc1 : l1.length ≤ c1) (h : laws_eqUint64S.f k l0 l1 = some r) :
 Calls Tryd.prog 43 #[.slice A0 l0.length c0, .slice A1 l1.length c1] w fun e w' => e = .returned (.bool r) ∧ Drawn0 w w' := by
 have HR0 := Aside0.mk hr0
 have HC0 := Aside0.mk hc0
 clear hr0 hc0
 have HR1 := Aside0.mk hr1
 have HC1 := Aside0.mk hc1
 clear hr1 hc1
 have H : (if (l0.length : Int) = (l1.length : Int) then (laws_eqUint64S.l0 k l0 l1 0) else (some false)) = some r := h
 clear h
 by_cases c3 : (l0.length : Int) = (l1.length : Int)
 · rw [if_pos c3] at H
   have c3b0 : ((l0.length : Int) == (l1.length : Int)) = true := beq_iff_eq.mpr c3
   have c3b1 : ((l0.length : Int) != (l1.length : Int)) = false := bne_eq_false_iff_eq.mpr c3
   have c3b2 : (l0.length == l1.length) = true := by first | simpa using c3 | (simp at c3 ⊢; omega)
   clear c3
   have H' := Aside0.mk H
   clear H
   go_enter Tryd.func43, Tryd.ntmps43
   go_wp2
   repeat (go_quiet (fail); try go_wp2)
   go_loopg [5] k (fun kq v5 w' => ∃ (x5_1 : Int), v5 = .int .i64 x5_1 ∧ Aside0 (laws_eqUint64S.l0 kq l0 l1 x5_1 = some r) ∧ Aside0 (kq ≤ k) ∧ Drawn0 w w')
   case atStart => exact ⟨(0), (by first | rfl | (simp; done) | (simp [*]; done)), H', ⟨Nat.le_refl _⟩, by repeat (first | exact Drawn0.refl _ | apply Drawn0.step)⟩
   case round =>
    clear H'
    try clear c1
    try clear p2
    try clear c3
    try clear c3b0
    try clear c3b1
    try clear c3b2
    obtain ⟨x5_1, rfl, HA, HK1, ⟨m1, rfl⟩⟩ := hrel
    cases gk with
    | zero => exact absurd HA.out (by simp [laws_eqUint64S.l0])
    | succ k1 =>
     have H := HA.out
     clear HA
     simp only [laws_eqUint64S.l0] at H
     by_cases c4 : x5_1 < (l0.length : Int)
     · rw [if_pos c4] at H
       have c4b0 : decide (x5_1 < (l0.length : Int)) = true := decide_eq_true c4
       clear c4
       by_cases c5 : 0 ≤ x5_1
       · rw [if_pos c5] at H
         have c5b0 : decide (0 ≤ x5_1) = true := decide_eq_true c5
         clear c5
         by_cases c6 : x5_1 < (l1.length : Int)
         · rw [if_pos c6] at H
           have c6b0 : decide (x5_1 < (l1.length : Int)) = true := decide_eq_true c6
           clear c6
           by_cases c7 : (rd l0 x5_1) = (rd l1 x5_1)
           · rw [if_pos c7] at H
             have c7b0 : ((rd l0 x5_1) == (rd l1 x5_1)) = true := beq_iff_eq.mpr c7
             have c7b1 : ((rd l0 x5_1) != (rd l1 x5_1)) = false := bne_eq_false_iff_eq.mpr c7
             clear c7
             have H' := Aside0.mk H
             clear H
             have p554 : 0 ≤ (x5_1 : Int) := of_decide_eq_true (by first | (with_reducible assumption) | assumption)
             have q554 : x5_1 < (l0.length : Int) := of_decide_eq_true (by first | (with_reducible assumption) | assumption)
             obtain ⟨ad554, e554, hx554_0⟩ := Kd.at_int HR0.out x5_1 p554 q554
             cases e554
             replace p554 := eq_true p554
             replace q554 := eq_true q554
             have p555 : 0 ≤ (x5_1 : Int) := of_decide_eq_true (by first | (with_reducible assumption) | assumption)
             have q555 : x5_1 < (l1.length : Int) := of_decide_eq_true (by first | (with_reducible assumption) | assumption)
             obtain ⟨ad555, e555, hx555_0⟩ := Kd.at_int HR1.out x5_1 p555 q555
             cases e555
             replace p555 := eq_true p555
             replace q555 := eq_true q555
             go_wp2
             repeat (go_quiet (fail); try go_wp2)
             go_roundg k1
             case measure => have := HK1.out; omega
             case rel => exact ⟨(wrap64 (x5_1 + 1)), (by first | rfl | (simp; done) | (simp [*]; done)), H', ⟨by have := HK1.out; omega⟩, by repeat (first | exact Drawn0.refl _ | apply Drawn0.step)⟩
           · rw [if_neg c7] at H
             have c7b0 : ((rd l0 x5_1) == (rd l1 x5_1)) = false := beq_eq_false_iff_ne.mpr c7
             have c7b1 : ((rd l0 x5_1) != (rd l1 x5_1)) = true := bne_iff_ne.mpr c7
             obtain rfl := Option.some.inj H
             have p554 : 0 ≤ (x5_1 : Int) := of_decide_eq_true (by first | (with_reducible assumption) | assumption)
             have q554 : x5_1 < (l0.length : Int) := of_decide_eq_true (by first | (with_reducible assumption) | assumption)
             obtain ⟨ad554, e554, hx554_0⟩ := Kd.at_int HR0.out x5_1 p554 q554
             cases e554
             replace p554 := eq_true p554
             replace q554 := eq_true q554
             have p555 : 0 ≤ (x5_1 : Int) := of_decide_eq_true (by first | (with_reducible assumption) | assumption)
             have q555 : x5_1 < (l1.length : Int) := of_decide_eq_true (by first | (with_reducible assumption) | assumption)
             obtain ⟨ad555, e555, hx555_0⟩ := Kd.at_int HR1.out x5_1 p555 q555
             cases e555
             replace p555 := eq_true p555
             replace q555 := eq_true q555
             go_wp2
             repeat (go_quiet (fail); try go_wp2)
             go_ret
             exact ⟨by first | rfl | (simp; done) | (simp [*]; done), by repeat (first | exact Drawn0.refl _ | apply Drawn0.step)⟩
         · rw [if_neg c6] at H
           exact absurd H (by simp)
       · rw [if_neg c5] at H
         exact absurd H (by simp)
     · rw [if_neg c4] at H
       have c4b0 : decide (x5_1 < (l0.length : Int)) = false := decide_eq_false c4
       clear c4
       obtain rfl := Option.some.inj H
       go_wp2
       repeat (go_quiet (fail); try go_wp2)
       go_ret
       exact ⟨by first | rfl | (simp; done) | (simp [*]; done), by repeat (first | exact Drawn0.refl _ | apply Drawn0.step)⟩
 · rw [if_neg c3] at H
   have c3b0 : ((l0.length : Int) == (l1.length : Int)) = false := beq_eq_false_iff_ne.mpr c3
   have c3b1 : ((l0.length : Int) != (l1.length : Int)) = true := bne_iff_ne.mpr c3
   have c3b2 : (l0.length == l1.length) = false := by first | simpa using c3 | (simp at c3 ⊢; omega)
   obtain rfl := Option.some.inj H
   go_enter Tryd.func43, Tryd.ntmps43
   go_wp2
   repeat (go_quiet (fail); try go_wp2)
   go_ret
   exact ⟨by first | rfl | (simp; done) | (simp [*]; done), by repeat (first | exact Drawn0.refl _ | apply Drawn0.step)⟩

end Go.Proofs.YtkohjiajbdkcbaaDoor.All

