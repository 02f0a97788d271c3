/- Part 2 of the proof of FnExactNeeded: functions of the translation with what they return, and plain laws of these. Written by programs of this session over the kit's print, and by hand. -/
import Derived.Test.YthegbhfoleiegaaProg
import Derived.Test.YthegbhfoleiegaaCFnExactNeededWApart
import Derived.Test.YthegbhfoleiegaaCFnExactNeededWArr
import Derived.Test.YthegbhfoleiegaaCFnExactNeededWEqStruct
import Derived.Test.YthegbhfoleiegaaCFnExactNeededWFoot
import Derived.Test.YthegbhfoleiegaaCFnExactNeededWGuard
import Derived.Test.YthegbhfoleiegaaCFnExactNeededWKept
import Derived.Test.YthegbhfoleiegaaCFnExactNeededWLast
import Derived.Test.YthegbhfoleiegaaCFnExactNeededWMore
import Derived.Test.YthegbhfoleiegaaCFnExactNeededWN
import Derived.Test.YthegbhfoleiegaaCFnExactNeededWNEv
import Derived.Test.YthegbhfoleiegaaCFnExactNeededWQPut
import Derived.Test.YthegbhfoleiegaaCFnExactNeededWRepsOne
import Derived.Test.YthegbhfoleiegaaCFnExactNeededWShare
import Derived.Test.YthegbhfoleiegaaCFnExactNeededWTab
import Derived.Test.YthegbhfoleiegaaCFnExactNeededWWords
import Derived.Test.YthegbhfoleiegaaCFnExactNeededWZeros
import Derived.Below
import Derived.Deep.Draws
import Derived.Deep.AppendLies
import Derived.Maps.AppendAt
import Derived.OwnWalk
import Derived.Laws.BytesArg
import Derived.Laws.MakeOwn
import Derived.Laws.OwnMore
import Derived.Deep.OwnRows
import Derived.Tactics
import Derived.Lib.ConvBytes
import Derived.Laws.Slices
import Derived.WalkKit
import Derived.KernelRfl
import Derived.RowKit3
import Derived.Deep.LoopGhost
import Derived.Deep.QuietTactic
import Derived.BigQuiet
import Derived.WideLaws
import Derived.Deep.DeepCutAuto
import Derived.Deep.CutBlock
import Derived.Deep.RegionHeld3
import Derived.Laws.Rows
import Derived.Lib.AppendStr
import Derived.ArgAppend
import Derived.Laws.IdiomCopy
import Derived.OrdersHeld
import Derived.Laws.BitsLemmas
import Derived.RowKit
import Derived.Laws.ResultCell
import Derived.Maps.OwnSet
import Derived.Maps.OwnOps
import Derived.DeepKeys4
import Derived.Deep.Slices
import Derived.ChangeArms
import Derived.ProofKit
import Derived.OpenShut
import Derived.ShutString
import Derived.ChangeOld
import Derived.SizedLaws
import Derived.Test.YthegbhfoleiegaaCFnExactNeeded1
namespace Go.Proofs.Ythegbhfoleiegaa.All
open Go.RowKit Go.Proofs.YthegbhfoleiegaaW.PrintWords Go.Proofs.YthegbhfoleiegaaW.PrintLast Go.Proofs.YthegbhfoleiegaaW.PrintMore
attribute [local go_sem] max2_int min2_int max_two min_two max_three min_three max_four min_four   -- for this text's walks alone
set_option linter.unusedVariables false
set_option linter.unusedSimpArgs false

attribute [local go_sem high] eqA125
/-! ### spec_Needed: function 34 -/
mutual
def spec_Needed.l0 : Nat → List (S68) → List (S125) → List (S125) → Int → Option ((List (S125)))
 | 0, _, _, _, _ => none
 | k + 1, x0, x5, x7, x8 => if x8 < (x7.length : Int) then (if 0 ≤ x8 then (if 0 ≤ ((rd_T125 x7 x8).f0) then (if ((rd_T125 x7 x8).f0) < (x0.length : Int) then (if 0 ≤ ((rd_T125 x7 x8).f1) then (if ((rd_T125 x7 x8).f1) < (((rd_T68 x0 ((rd_T125 x7 x8).f0)).f0).length : Int) then (spec_Needed.l1 k x0 x5 x7 x8 0 ((rd_T130 ((rd_T68 x0 ((rd_T125 x7 x8).f0)).f0) ((rd_T125 x7 x8).f1)).f0) ((rd_T130 ((rd_T68 x0 ((rd_T125 x7 x8).f0)).f0) ((rd_T125 x7 x8).f1)).f1) ((rd_T130 ((rd_T68 x0 ((rd_T125 x7 x8).f0)).f0) ((rd_T125 x7 x8).f1)).f2) ((rd_T130 ((rd_T68 x0 ((rd_T125 x7 x8).f0)).f0) ((rd_T125 x7 x8).f1)).f3) ((rd_T130 ((rd_T68 x0 ((rd_T125 x7 x8).f0)).f0) ((rd_T125 x7 x8).f1)).f4) ((rd_T130 ((rd_T68 x0 ((rd_T125 x7 x8).f0)).f0) ((rd_T125 x7 x8).f1)).f5) ((rd_T130 ((rd_T68 x0 ((rd_T125 x7 x8).f0)).f0) ((rd_T125 x7 x8).f1)).f6) ((rd_T130 ((rd_T68 x0 ((rd_T125 x7 x8).f0)).f0) ((rd_T125 x7 x8).f1)).f7)) else (none)) else (none)) else (none)) else (none)) else (none)) else (spec_Needed.l3 k x0 x5 x7 0)
def spec_Needed.l1 : Nat → List (S68) → List (S125) → List (S125) → Int → Int → ByteArray → Int → Int → Int → List Int → Int → List Int → List (S132) → Option ((List (S125)))
 | 0, _, _, _, _, _, _, _, _, _, _, _, _, _ => none
 | k + 1, x0, x5, x7, x8, x10, x574000, x574001, x574002, x574003, x574004, x574005, x574006, x574007 => if x10 < (x574007.length : Int) then (if 0 ≤ x8 then (if x8 < (x7.length : Int) then (if 0 ≤ x10 then ((spec_l20Of.f k x0 ((rd_T125 x7 x8).f0) ((rd_T132 x574007 x10).f2)).bind fun bt576 => (spec_Needed.l2 k x0 x5 x7 x8 x10 (decide (bt576.1 < 0)) 0 x574000 x574001 x574002 x574003 x574004 x574005 x574006 x574007 bt576.1 bt576.2)) else (none)) else (none)) else (none)) else (spec_Needed.l0 k x0 x5 x7 (wrap64 (x8 + 1)))
def spec_Needed.l2 : Nat → List (S68) → List (S125) → List (S125) → Int → Int → Bool → Int → ByteArray → Int → Int → Int → List Int → Int → List Int → List (S132) → Int → Int → Option ((List (S125)))
 | 0, _, _, _, _, _, _, _, _, _, _, _, _, _, _, _, _, _ => none
 | k + 1, x0, x5, x7, x8, x10, x12, x13, x574000, x574001, x574002, x574003, x574004, x574005, x574006, x574007, x579000, x579001 => if x13 < (x7.length : Int) then (if x12 = true then (spec_Needed.l2 k x0 x5 x7 x8 x10 true (wrap64 (x13 + 1)) x574000 x574001 x574002 x574003 x574004 x574005 x574006 x574007 x579000 x579001) else (if 0 ≤ x13 then (spec_Needed.l2 k x0 x5 x7 x8 x10 (((rd_T125 x7 x13).f0) == x579000 && (((rd_T125 x7 x13).f1) == x579001)) (wrap64 (x13 + 1)) x574000 x574001 x574002 x574003 x574004 x574005 x574006 x574007 x579000 x579001) else (none))) else (if x12 = true then (spec_Needed.l1 k x0 x5 x7 x8 (wrap64 (x10 + 1)) x574000 x574001 x574002 x574003 x574004 x574005 x574006 x574007) else (if x7.length < 8796093022208 then (spec_Needed.l1 k x0 x5 (x7 ++ [(⟨x579000, x579001⟩ : S125)]) x8 (wrap64 (x10 + 1)) x574000 x574001 x574002 x574003 x574004 x574005 x574006 x574007) else (none)))
def spec_Needed.l3 : Nat → List (S68) → List (S125) → List (S125) → Int → Option ((List (S125)))
 | 0, _, _, _, _ => none
 | k + 1, x0, x5, x7, x14 => if x14 < (x0.length : Int) then (spec_Needed.l4 k x0 x5 x7 x14 0) else (some x5)
def spec_Needed.l4 : Nat → List (S68) → List (S125) → List (S125) → Int → Int → Option ((List (S125)))
 | 0, _, _, _, _, _ => none
 | k + 1, x0, x5, x7, x14, x15 => if 0 ≤ x14 then (if x14 < (x0.length : Int) then (if x15 < (((rd_T68 x0 x14).f0).length : Int) then (spec_Needed.l5 k x0 x5 x7 x14 x15 0) else (spec_Needed.l3 k x0 x5 x7 (wrap64 (x14 + 1)))) else (none)) else (none)
def spec_Needed.l5 : Nat → List (S68) → List (S125) → List (S125) → Int → Int → Int → Option ((List (S125)))
 | 0, _, _, _, _, _, _ => none
 | k + 1, x0, x5, x7, x14, x15, x16 => if x16 < (x7.length : Int) then (if 0 ≤ x16 then (if (((rd_T125 x7 x16).f0) == x14 && (((rd_T125 x7 x16).f1) == x15)) = true then (if x5.length < 8796093022208 then (spec_Needed.l5 k x0 (x5 ++ [(⟨(rd_T125 x7 x16).f0, (rd_T125 x7 x16).f1⟩ : S125)]) x7 x14 x15 (wrap64 (x16 + 1))) else (none)) else (spec_Needed.l5 k x0 x5 x7 x14 x15 (wrap64 (x16 + 1)))) else (none)) else (spec_Needed.l4 k x0 x5 x7 x14 (wrap64 (x15 + 1)))
end
def spec_Needed.f (k : Nat) (l0 : List (S68)) (a1 : ByteArray) : Option ((List (S125))) := (some (([] : List (S125)) : List (S125))).bind fun y559 => ((spec_l20Of.f k l0 (-1) a1).bind fun bt562 => ((spec_l20Code.f l0 bt562.1 bt562.2).bind fun t565 => (if t565 = true then (spec_Needed.l0 k l0 y559 (([(⟨bt562.1, bt562.2⟩ : S125)] : List (S125))) 0) else (some y559))))
def spec_Needed.T9 : Bool × List (List Nat × List Nat) := (true, [([], []), ([], []), ([], []), ([1, 2], [1, 2]), ([3], [3]), ([4], [4]), ([0, 5], [0, 5]), ([6], [6]), ([7], [7]), ([], []), ([], []), ([9, 10], [9, 10]), ([11], [11]), ([12], [12]), ([8, 13], [8, 13]), ([14], [14]), ([], []), ([16, 15, 0, 1, 2, 3, 4, 5, 6, 7, 8, 9, 10, 11, 12, 13, 14, 15, 16], [15, 16])])
def spec_Needed.B9 : List Nat := [0, 0, 0, 6, 14, 30, 63, 127, 255, 0, 0, 1536, 3584, 7680, 16383, 32767, 0, 131071]
theorem spec_Needed.tab9 : rtab .any (opsOf Try.f34 9) = spec_Needed.T9 := by kernel_rfl
theorem spec_Needed.bits9 : waitsOk spec_Needed.T9.2 spec_Needed.B9 = true := by kernel_rfl
def spec_Needed.T13 : Bool × List (List Nat × List Nat) := (true, [([], []), ([], []), ([], []), ([1, 2], [1, 2]), ([3], [3]), ([4], [4]), ([], []), ([6], [6]), ([], []), ([7, 8], [7, 8]), ([9], [9]), ([10], [10]), ([0, 5, 11], [0, 5, 11]), ([], []), ([13, 12, 12, 0, 1, 2, 3, 4, 5, 6, 7, 8, 9, 10, 11, 12, 13], [12, 13])])
def spec_Needed.B13 : List Nat := [0, 0, 0, 6, 14, 30, 0, 64, 0, 448, 960, 1984, 4095, 0, 16383]
theorem spec_Needed.tab13 : rtab .any (opsOf Try.f34 13) = spec_Needed.T13 := by kernel_rfl
theorem spec_Needed.bits13 : waitsOk spec_Needed.T13.2 spec_Needed.B13 = true := by kernel_rfl
def spec_Needed.T18 : Bool × List (List Nat × List Nat) := (true, [([], []), ([0], [0]), ([1], [1]), ([1], [1]), ([2, 3, 1], [1, 2, 3]), ([4, 1], [1, 4]), ([1], [1]), ([5, 6, 1], [1, 5, 6]), ([1, 7], [1, 7]), ([8, 1, 0, 1, 2, 3, 4, 5, 6, 7, 8], [0, 8])])
def spec_Needed.B18 : List Nat := [0, 1, 3, 3, 15, 31, 3, 127, 255, 511]
theorem spec_Needed.tab18 : rtab .any (opsOf Try.f34 18) = spec_Needed.T18 := by kernel_rfl
theorem spec_Needed.bits18 : waitsOk spec_Needed.T18.2 spec_Needed.B18 = true := by kernel_rfl
set_option maxHeartbeats 8000000 in
set_option maxRecDepth 100000 in
theorem spec_Needed.calls (k : Nat) (A0 : Option Addr) (c0 : Nat) (l0 : List (S68)) (a1 : ByteArray) (r : List (S125)) (w : World) (hr0 : Kd.C k68 w A0 l0.length l0) (hc0 : l0.length ≤ c0) (h : spec_Needed.f k l0 a1 = some r) :
 Calls Try.prog 34 #[.slice A0 l0.length c0, .string a1] w fun e w' => ∃ v0_ : Value, e = .returned (v0_) ∧ Kd.R k125 125 w' w.heap.size (fun _ => True) v0_ r ∧ Below w.heap.size w w' := by
 have hu125 := Try.underlying125
 have hu130 := Try.underlying130
 have HR0 := Aside0.mk hr0
 have HC0 := Aside0.mk hc0
 clear hr0 hc0
 have HB := Aside0.mk (Below.refl w.heap.size w)
 have H : ((some (([] : List (S125)) : List (S125))).bind fun y559 => ((spec_l20Of.f k l0 (-1) a1).bind fun bt562 => ((spec_l20Code.f l0 bt562.1 bt562.2).bind fun t565 => (if t565 = true then (spec_Needed.l0 k l0 y559 (([(⟨bt562.1, bt562.2⟩ : S125)] : List (S125))) 0) else (some y559))))) = some r := h
 clear h
 obtain ⟨y559, hy559⟩ : ∃ y_ : List (S125), y_ = (([] : List (S125))) := ⟨_, rfl⟩
 replace H : ((spec_l20Of.f k l0 (-1) a1).bind fun bt562 => ((spec_l20Code.f l0 bt562.1 bt562.2).bind fun t565 => (if t565 = true then (spec_Needed.l0 k l0 y559 (([(⟨bt562.1, bt562.2⟩ : S125)] : List (S125))) 0) else (some y559)))) = some r := by first | (rw [hy559]; with_reducible exact H) | (have H2_ := (Option.bind_some _ _).symm.trans H; rw [hy559]; with_reducible exact H2_) | (have H2_ := (Option.bind_some _ _).symm.trans H; with_reducible exact H2_) | with_reducible exact H | (rw [hy559]; exact H) | exact H
 have Ny559 := Aside0.mk hy559
 clear hy559
 replace H := Option.bind_eq_some_iff.mp H
 obtain ⟨⟨t562, t563⟩, A30, H⟩ := H
 replace H : ((spec_l20Code.f l0 t562 t563).bind fun t565 => (if t565 = true then (spec_Needed.l0 k l0 y559 (([(⟨t562, t563⟩ : S125)] : List (S125))) 0) else (some y559))) = some r := H
 have A3 := Aside0.mk A30
 clear A30
 replace H := Option.bind_eq_some_iff.mp H
 obtain ⟨t565, A40, H⟩ := H
 replace H : (if t565 = true then (spec_Needed.l0 k l0 y559 (([(⟨t562, t563⟩ : S125)] : List (S125))) 0) else (some y559)) = some r := H
 have A4 := Aside0.mk A40
 clear A40
 by_cases c5 : t565 = true
 · subst c5
   have H1 : (spec_Needed.l0 k l0 y559 (([(⟨t562, t563⟩ : S125)] : List (S125))) 0) = some r := by rw [if_pos rfl] at H; exact H
   clear H
   have H := H1
   clear H1
   obtain ⟨y566, hy566⟩ : ∃ y_ : List (S125), y_ = (([(⟨t562, t563⟩ : S125)] : List (S125))) := ⟨_, rfl⟩
   replace H : (spec_Needed.l0 k l0 y559 y566 0) = some r := by first | (rw [hy566]; with_reducible exact H) | (have H2_ := (Option.bind_some _ _).symm.trans H; rw [hy566]; with_reducible exact H2_) | (have H2_ := (Option.bind_some _ _).symm.trans H; with_reducible exact H2_) | with_reducible exact H | (rw [hy566]; exact H) | exact H
   have Ny566 := Aside0.mk hy566
   clear hy566
   have H' := Aside0.mk H
   clear H
   go_enter Try.func34, Try.ntmps34
   go_wp2_with (first | ((with_reducible refine gate_dst (N := 17) rfl ?_); refine Kd.R_lit k125 _ 125 ?hg (N := 17) ?hd (xs := ([] : List (S125))) (inner := []) (ok := fun _ => True) (okp := fun _ => True) ?hr ?hp (fun _ hk => hk) trivial (Below.refl _ _) (Nat.le_refl _) (by simp) ?_; (case hd => rfl); (case hg => rfl); (case hr => first | (go_simp; done) | (go_simp; rfl)); (case hp => exact (Reps.none _ _)); intro v560 w6 ho7 hb hg_ hnew_; clear hg_ hnew_; (first | rw [← Ny559.out] at ho7 | (simp only [Int.reduceToNat] at ho7; rw [← Ny559.out] at ho7)); have n0_ := Aside0.mk (Kd.R_lower ho7 (below_size (by repeat (first | (with_reducible first | exact HB.out | apply below_alloc | apply pw_below_drewN | apply below_drew1) | exact HB.out)))); have n1_ := Aside0.mk (below_step (by repeat (first | (with_reducible first | exact HB.out | apply below_alloc | apply pw_below_drewN | apply below_drew1) | exact HB.out)) hb); clear HB; have HO561 := n0_; have HB := n1_; clear n0_ n1_; clear hb ho7) | ((with_reducible refine gate_callee (f := 85) rfl ?_); refine goesL_ (some 20) rfl rfl Try.func85 (by kernel_rfl) rfl #[.slice A0 l0.length c0, .int .i64 (-1), .string a1] rfl (by (try simp only [List.map_toArray, List.map_cons, List.map_nil]); first | done | rfl | (simp only [List.length_drop, List.length_take]; rfl)) ?_; (with_reducible refine (spec_l20Of.calls k (fun k_ => k_ < w.heap.size) _ _ l0 (-1) a1 t562 t563 _ ?side1 A3.out).mono ?_); (case side1 => exact Kd.V_mk HC0.out (Kd.F_below (Kd.C_F k68_heap HR0.out) (by repeat (first | (with_reducible first | exact HB.out | apply below_alloc | apply pw_below_drewN | apply below_drew1) | exact HB.out)))); rintro e w8 ⟨rfl, hb⟩; refine ⟨_, rfl, ?_⟩; have n0_ := Aside0.mk (Kd.R_below (by (with_reducible repeat (first | apply Kd.R_alloc | apply Kd.R_drewN | apply Kd.R_drew)); exact HO561.out) hb); have n1_ := Aside0.mk (below_step (by repeat (first | (with_reducible first | exact HB.out | apply below_alloc | apply pw_below_drewN | apply below_drew1) | exact HB.out)) hb); clear HO561; clear HB; have HO561 := n0_; have HB := n1_; clear n0_ n1_; (try clear hb); (try clear hb2); (try clear hk); (try clear hi)) | ((with_reducible refine gate_dst (N := 6) rfl ?_); refine box_event ?hg (N := 6) ?hd (cs := #[.int .i64 0, .int .i64 0]) (t := 125) ?hr ?_; (case hd => rfl); (case hg => rfl); (case hr => first | (go_simp; done) | (go_simp; rfl)); intro gb564 hg w9 hbox hb; have n0_ := Aside0.mk (Kd.R_below (Kd.R_elderB (by (with_reducible repeat (first | apply Kd.R_alloc | apply Kd.R_drewN | apply Kd.R_drew)); exact HO561.out) gb564 (Nat.le_of_eq hg.symm)) hb); have n1_ := Aside0.mk (below_step (by repeat (first | (with_reducible first | exact HB.out | apply below_alloc | apply pw_below_drewN | apply below_drew1) | exact HB.out)) hb); have n2_ := Aside0.mk (hbox); have n3_ := Aside0.mk ((by rw [hg]; exact (below_size (by repeat (first | (with_reducible first | exact HB.out | apply below_alloc | apply pw_below_drewN | apply below_drew1) | exact HB.out))) : w.heap.size ≤ gb564)); have n4_ := Aside0.mk ((by rw [hg]; exact (below_size (by repeat (first | (with_reducible first | exact HB.out | apply below_alloc | apply pw_below_drewN | apply below_drew1) | exact HB.out))) : w.heap.size ≤ gb564)); clear HO561; clear HB; have HO561 := n0_; have HB := n1_; have BK564 := n2_; have GW564 := n3_; have GE564 := n4_; clear n0_ n1_ n2_ n3_ n4_; clear hb hbox hg; have hcz10_0 : w9.cell? ⟨gb564, 0, none⟩ = some (.int .i64 0) := (blk_cell BK564.out 0).trans rfl; have hcz10_1 : w9.cell? ⟨gb564, 1, none⟩ = some (.int .i64 0) := (blk_cell BK564.out 1).trans rfl; have hfz10_0 := blk_frozen BK564.out 0; have hfz10_1 := blk_frozen BK564.out 1) | ((with_reducible refine gate_callee (f := 86) rfl ?_); refine goesL_ (some 23) rfl rfl Try.func86 (by kernel_rfl) rfl #[.slice A0 l0.length c0, .agg #[.int .i64 t562, .int .i64 t563]] rfl (by (try simp only [List.map_toArray, List.map_cons, List.map_nil]); first | done | rfl | (simp only [List.length_drop, List.length_take]; rfl)) ?_; (with_reducible refine (spec_l20Code.calls _ _ l0 t562 t563 true _ ?side1 ?side2 A4.out).mono ?_); (case side1 => exact Kd.C_below HR0.out (by repeat (first | (with_reducible first | exact HB.out | apply below_alloc | apply pw_below_drewN | apply below_drew1 | refine below_set ?_ GE564.out) | exact HB.out))); (case side2 => exact HC0.out); rintro e w11 ⟨rfl, hb⟩; refine ⟨_, rfl, ?_⟩; have n0_ := Aside0.mk (Kd.R_below (by (with_reducible repeat (first | apply Kd.R_alloc | apply Kd.R_drewN | apply Kd.R_drew)); exact (Kd.R_mono (Kd.R_far (p := ⟨gb564, 1, none⟩) (Kd.R_far (p := ⟨gb564, 0, none⟩) (Kd.R_mono HO561.out (fun k_ hk => (⟨hk, hk.2⟩ : _ ∧ k_ ≠ gb564))) (fun _ hk => hk.2) (.int .i64 t562)) (fun _ hk => hk.2) (.int .i64 t563)) (fun _ h_ => h_.1))) hb); have n1_ := Aside0.mk (blk_below (g := gb564) (o := .cells #[.int .i64 t562, .int .i64 t563] 125 (0, 0)) (by (with_reducible repeat (first | refine blk_drewN ?_ _ | refine blk_drew ?_ | refine blk_alloc ?_ _)); refine blk_put (cs := #[.int .i64 t562, .int .i64 0]) ?_ 1 _ rfl; (with_reducible repeat (first | refine blk_drewN ?_ _ | refine blk_drew ?_ | refine blk_alloc ?_ _)); refine blk_put (cs := #[.int .i64 0, .int .i64 0]) ?_ 0 _ rfl; (with_reducible repeat (first | refine blk_drewN ?_ _ | refine blk_drew ?_ | refine blk_alloc ?_ _)); exact BK564.out) hb); have n2_ := Aside0.mk (below_step (by repeat (first | (with_reducible first | exact HB.out | apply below_alloc | apply pw_below_drewN | apply below_drew1 | refine below_set ?_ GE564.out) | exact HB.out)) hb); clear HO561; clear BK564; clear HB; have HO561 := n0_; have BK564 := n1_; have HB := n2_; clear n0_ n1_ n2_; (try clear hb); (try clear hb2); (try clear hk); (try clear hi); have hcz12_0 : w11.cell? ⟨gb564, 0, none⟩ = some (.int .i64 t562) := (blk_cell BK564.out 0).trans rfl; have hcz12_1 : w11.cell? ⟨gb564, 1, none⟩ = some (.int .i64 t563) := (blk_cell BK564.out 1).trans rfl; have hfz12_0 := blk_frozen BK564.out 0; have hfz12_1 := blk_frozen BK564.out 1) | ((with_reducible refine gate_dst (N := 27) rfl ?_); refine Kd.R_lit k125 _ 125 ?hg (N := 27) ?hd (xs := ([(⟨t562, t563⟩ : S125)] : List (S125))) (inner := [.int .i64 t562, .int .i64 t563]) (ok := fun _ => True) (okp := fun _ => True) ?hr ?hp (fun _ hk => hk) trivial (Below.refl _ _) (Nat.le_refl _) (by simp) ?_; (case hd => rfl); (case hg => rfl); (case hr => first | (go_simp; done) | (go_simp; rfl)); (case hp => exact (Reps.c2 (show Kd.M k125 _ _ _ (⟨t562, t563⟩ : S125) [.int .i64 t562, .int .i64 t563] from (k125_mkM _ _ _ (⟨t562, t563⟩ : S125) )) (Reps.none _ _))); intro v567 w13 ho14 hb hg_ hnew_; clear hg_ hnew_; (first | rw [← Ny566.out] at ho14 | (simp only [Int.reduceToNat] at ho14; rw [← Ny566.out] at ho14)); have n0_ := Aside0.mk (Kd.R_elder' (by (with_reducible repeat (first | apply Kd.R_alloc | apply Kd.R_drewN | apply Kd.R_drew)); exact HO561.out) (Kd.R_base ho14) hb); have n1_ := Aside0.mk (Kd.R_lower (Kd.R_newB (Kd.R_new' ho14 (Kd.R_lt (by (with_reducible repeat (first | apply Kd.R_alloc | apply Kd.R_drewN | apply Kd.R_drew)); exact HO561.out))) (g := gb564) (o := .cells #[.int .i64 t562, .int .i64 t563] 125 (0, 0)) (by (with_reducible repeat (first | refine blk_drewN ?_ _ | refine blk_drew ?_ | refine blk_alloc ?_ _)); exact BK564.out)) (below_size (by repeat (first | (with_reducible first | exact HB.out | apply below_alloc | apply pw_below_drewN | apply below_drew1 | refine below_set ?_ GE564.out) | exact HB.out)))); have n2_ := Aside0.mk (blk_below (g := gb564) (o := .cells #[.int .i64 t562, .int .i64 t563] 125 (0, 0)) (by (with_reducible repeat (first | refine blk_drewN ?_ _ | refine blk_drew ?_ | refine blk_alloc ?_ _)); exact BK564.out) hb); have n3_ := Aside0.mk (below_step (by repeat (first | (with_reducible first | exact HB.out | apply below_alloc | apply pw_below_drewN | apply below_drew1 | refine below_set ?_ GE564.out) | exact HB.out)) hb); clear HO561; clear BK564; clear HB; have HO561 := n0_; have HO568 := n1_; have BK564 := n2_; have HB := n3_; clear n0_ n1_ n2_ n3_; clear hb ho14))
   go_loopg [7, 8] k (fun kq v7 v8 w' => ∃ (x7_1 : List (S125)) (x8_1 : Int), v8 = .int .i64 x8_1 ∧ Aside0 (spec_Needed.l0 kq l0 y559 x7_1 x8_1 = some r) ∧ Aside0 (kq ≤ k) ∧ Aside0 (Kd.R k125 125 w' w.heap.size (fun k_ => some k_ ≠ (v7 : Value).ownBlock ∧ k_ ≠ gb564) v560 y559) ∧ Aside0 (Kd.R k125 125 w' w.heap.size (fun k_ => some k_ ≠ (v560 : Value).ownBlock ∧ k_ ≠ gb564) v7 x7_1) ∧ Aside0 (w'.heap[gb564]? = some (.cells #[.int .i64 t562, .int .i64 t563] 125 (0, 0))) ∧ Aside0 (Below w.heap.size w w'))
   case atStart => exact ⟨(y566), (0), (by first | rfl | (simp; done) | (simp [*]; done)), H', ⟨Nat.le_refl _⟩, ⟨by (with_reducible repeat (first | apply Kd.R_alloc | apply Kd.R_drewN | apply Kd.R_drew)); exact Kd.R_mono HO561.out (fun _ hk => ⟨hk.2, hk.1.2⟩)⟩, ⟨by (with_reducible repeat (first | apply Kd.R_alloc | apply Kd.R_drewN | apply Kd.R_drew)); exact Kd.R_mono HO568.out (fun _ hk => ⟨hk.1.2, hk.2⟩)⟩, ⟨by (with_reducible repeat (first | refine blk_drewN ?_ _ | refine blk_drew ?_ | refine blk_alloc ?_ _)); exact BK564.out⟩, ⟨by repeat (first | (with_reducible first | exact HB.out | apply below_alloc | apply pw_below_drewN | apply below_drew1 | refine below_set ?_ GE564.out) | exact HB.out)⟩⟩
   case round =>
    clear H'
    try clear c2
    try clear p2
    try clear c3
    try clear c5
    try clear c8
    try clear hcz10_0
    try clear hcz10_1
    try clear hcz12_0
    try clear hcz12_1
    try clear hfz10_0
    try clear hfz10_1
    try clear hfz12_0
    try clear hfz12_1
    obtain ⟨x7_1, x8_1, rfl, HA, HK1, HO_5, HO_7, BK564, HB⟩ := hrel
    cases gk with
    | zero => exact absurd HA.out (by simp [spec_Needed.l0])
    | succ k1 =>
     have H := HA.out
     clear HA
     simp only [spec_Needed.l0] at H
     by_cases c15 : x8_1 < (x7_1.length : Int)
     · rw [if_pos c15] at H
       have c15b0 : decide (x8_1 < (x7_1.length : Int)) = true := decide_eq_true c15
       clear c15
       by_cases c16 : 0 ≤ x8_1
       · rw [if_pos c16] at H
         have c16b0 : decide (0 ≤ x8_1) = true := decide_eq_true c16
         clear c16
         by_cases c17 : 0 ≤ ((rd_T125 x7_1 x8_1).f0)
         · rw [if_pos c17] at H
           have c17b0 : decide (0 ≤ ((rd_T125 x7_1 x8_1).f0)) = true := decide_eq_true c17
           clear c17
           by_cases c18 : ((rd_T125 x7_1 x8_1).f0) < (l0.length : Int)
           · rw [if_pos c18] at H
             have c18b0 : decide (((rd_T125 x7_1 x8_1).f0) < (l0.length : Int)) = true := decide_eq_true c18
             clear c18
             by_cases c19 : 0 ≤ ((rd_T125 x7_1 x8_1).f1)
             · rw [if_pos c19] at H
               have c19b0 : decide (0 ≤ ((rd_T125 x7_1 x8_1).f1)) = true := decide_eq_true c19
               clear c19
               by_cases c20 : ((rd_T125 x7_1 x8_1).f1) < (((rd_T68 l0 ((rd_T125 x7_1 x8_1).f0)).f0).length : Int)
               · rw [if_pos c20] at H
                 have c20b0 : decide (((rd_T125 x7_1 x8_1).f1) < (((rd_T68 l0 ((rd_T125 x7_1 x8_1).f0)).f0).length : Int)) = true := decide_eq_true c20
                 clear c20
                 have H' := Aside0.mk H
                 clear H
                 obtain ⟨Ao21, co21, eo21⟩ := Kd.R_slice HO_7.out
                 subst eo21
                 try go_wp2
                 have n0_ := Aside0.mk (Kd.R_drew HO_5.out)
                 have n1_ := Aside0.mk (Kd.R_drew HO_7.out)
                 have n2_ := Aside0.mk (blk_drew BK564.out)
                 have n3_ := Aside0.mk (below_drew1 HB.out)
                 clear HO_5
                 clear HO_7
                 clear BK564
                 clear HB
                 have HO_5 := n0_
                 have HO_7 := n1_
                 have BK564 := n2_
                 have HB := n3_
                 clear n0_ n1_ n2_ n3_
                 have p569 : 0 ≤ (x8_1 : Int) := of_decide_eq_true (by first | (with_reducible assumption) | assumption)
                 have q569 : x8_1 < (x7_1.length : Int) := of_decide_eq_true (by first | (with_reducible assumption) | assumption)
                 obtain ⟨ad569, e569, hx569_0, hx569_1⟩ := at_T125 (Kd.R_reads' HO_7.out).2.2 x8_1 p569 q569
                 cases e569
                 replace p569 := eq_true p569
                 replace q569 := eq_true q569
                 have p570 : 0 ≤ (((rd_T125 x7_1 x8_1).f0) : Int) := of_decide_eq_true (by first | (with_reducible assumption) | assumption)
                 have q570 : ((rd_T125 x7_1 x8_1).f0) < (l0.length : Int) := of_decide_eq_true (by first | (with_reducible assumption) | assumption)
                 obtain ⟨ad570, A570_0, c570_0, e570, hx570_0, hl570_0, hi570_0⟩ := at_T68 HR0.out ((rd_T125 x7_1 x8_1).f0) p570 q570
                 have hw570_0 := hx570_0
                 cases e570
                 replace hx570_0 := (HB.out.cell (World.block_lt_of_cell? w _ hx570_0)).trans hx570_0
                 have HR570_0 := Aside0.mk hi570_0
                 have HC570_0 := Aside0.mk hl570_0
                 clear hi570_0 hl570_0
                 replace p570 := eq_true p570
                 replace q570 := eq_true q570
                 have p571 : 0 ≤ (x8_1 : Int) := of_decide_eq_true (by first | (with_reducible assumption) | assumption)
                 have q571 : x8_1 < (x7_1.length : Int) := of_decide_eq_true (by first | (with_reducible assumption) | assumption)
                 obtain ⟨ad571, e571, hx571_0, hx571_1⟩ := at_T125 (Kd.R_reads' HO_7.out).2.2 x8_1 p571 q571
                 obtain rfl : ad569 = ad571 := (by injection e571)
                 replace p571 := eq_true p571
                 replace q571 := eq_true q571
                 have p572 : 0 ≤ (((rd_T125 x7_1 x8_1).f1) : Int) := of_decide_eq_true (by first | (with_reducible assumption) | assumption)
                 have q572 : ((rd_T125 x7_1 x8_1).f1) < (((rd_T68 l0 ((rd_T125 x7_1 x8_1).f0)).f0).length : Int) := of_decide_eq_true (by first | (with_reducible assumption) | assumption)
                 obtain ⟨ad572, A572_4, c572_4, A572_6, c572_6, A572_7, c572_7, e572, hx572_0, hx572_1, hx572_2, hx572_3, hx572_4, hx572_5, hx572_6, hx572_7, hl572_4, hi572_4, hl572_6, hi572_6, hl572_7, hi572_7⟩ := at_T130 HR570_0.out ((rd_T125 x7_1 x8_1).f1) p572 q572
                 have hw572_7 := hx572_7
                 have hw572_6 := hx572_6
                 have hw572_5 := hx572_5
                 have hw572_4 := hx572_4
                 have hw572_3 := hx572_3
                 have hw572_2 := hx572_2
                 have hw572_1 := hx572_1
                 have hw572_0 := hx572_0
                 cases e572
                 replace hx572_0 := (HB.out.cell (World.block_lt_of_cell? w _ hx572_0)).trans hx572_0
                 replace hx572_1 := (HB.out.cell (World.block_lt_of_cell? w _ hx572_1)).trans hx572_1
                 replace hx572_2 := (HB.out.cell (World.block_lt_of_cell? w _ hx572_2)).trans hx572_2
                 replace hx572_3 := (HB.out.cell (World.block_lt_of_cell? w _ hx572_3)).trans hx572_3
                 replace hx572_4 := (HB.out.cell (World.block_lt_of_cell? w _ hx572_4)).trans hx572_4
                 replace hx572_5 := (HB.out.cell (World.block_lt_of_cell? w _ hx572_5)).trans hx572_5
                 replace hx572_6 := (HB.out.cell (World.block_lt_of_cell? w _ hx572_6)).trans hx572_6
                 replace hx572_7 := (HB.out.cell (World.block_lt_of_cell? w _ hx572_7)).trans hx572_7
                 have HR572_4 := Aside0.mk hi572_4
                 have HC572_4 := Aside0.mk hl572_4
                 clear hi572_4 hl572_4
                 have HR572_6 := Aside0.mk hi572_6
                 have HC572_6 := Aside0.mk hl572_6
                 clear hi572_6 hl572_6
                 have HR572_7 := Aside0.mk hi572_7
                 have HC572_7 := Aside0.mk hl572_7
                 clear hi572_7 hl572_7
                 replace p572 := eq_true p572
                 replace q572 := eq_true q572
                 refine start_ (n := 18) (S := fun w' => w'.cell? (ad569.add ((x8_1).toNat * 2)) = some (.int .i64 ((rd_T125 x7_1 x8_1).f0)) ∧ w'.cell? ⟨(ad569.add ((x8_1).toNat * 2)).block, (ad569.add ((x8_1).toNat * 2)).off + 1, none⟩ = some (.int .i64 ((rd_T125 x7_1 x8_1).f1)) ∧ w'.cell? (ad570.add (((rd_T125 x7_1 x8_1).f0)).toNat) = some (.slice (some ad572) ((rd_T68 l0 ((rd_T125 x7_1 x8_1).f0)).f0).length c570_0) ∧ w'.cell? (ad569.add ((x8_1).toNat * 2)) = some (.int .i64 ((rd_T125 x7_1 x8_1).f0)) ∧ w'.cell? ⟨(ad569.add ((x8_1).toNat * 2)).block, (ad569.add ((x8_1).toNat * 2)).off + 1, none⟩ = some (.int .i64 ((rd_T125 x7_1 x8_1).f1)) ∧ w'.cell? (ad572.add ((((rd_T125 x7_1 x8_1).f1)).toNat * 8)) = some (.string ((rd_T130 ((rd_T68 l0 ((rd_T125 x7_1 x8_1).f0)).f0) ((rd_T125 x7_1 x8_1).f1)).f0)) ∧ w'.cell? ⟨(ad572.add ((((rd_T125 x7_1 x8_1).f1)).toNat * 8)).block, (ad572.add ((((rd_T125 x7_1 x8_1).f1)).toNat * 8)).off + 1, none⟩ = some (.int .i64 ((rd_T130 ((rd_T68 l0 ((rd_T125 x7_1 x8_1).f0)).f0) ((rd_T125 x7_1 x8_1).f1)).f1)) ∧ w'.cell? ⟨(ad572.add ((((rd_T125 x7_1 x8_1).f1)).toNat * 8)).block, (ad572.add ((((rd_T125 x7_1 x8_1).f1)).toNat * 8)).off + 2, none⟩ = some (.int .i64 ((rd_T130 ((rd_T68 l0 ((rd_T125 x7_1 x8_1).f0)).f0) ((rd_T125 x7_1 x8_1).f1)).f2)) ∧ w'.cell? ⟨(ad572.add ((((rd_T125 x7_1 x8_1).f1)).toNat * 8)).block, (ad572.add ((((rd_T125 x7_1 x8_1).f1)).toNat * 8)).off + 3, none⟩ = some (.int .i64 ((rd_T130 ((rd_T68 l0 ((rd_T125 x7_1 x8_1).f0)).f0) ((rd_T125 x7_1 x8_1).f1)).f3)) ∧ w'.cell? ⟨(ad572.add ((((rd_T125 x7_1 x8_1).f1)).toNat * 8)).block, (ad572.add ((((rd_T125 x7_1 x8_1).f1)).toNat * 8)).off + 4, none⟩ = some (.slice A572_4 ((rd_T130 ((rd_T68 l0 ((rd_T125 x7_1 x8_1).f0)).f0) ((rd_T125 x7_1 x8_1).f1)).f4).length c572_4) ∧ w'.cell? ⟨(ad572.add ((((rd_T125 x7_1 x8_1).f1)).toNat * 8)).block, (ad572.add ((((rd_T125 x7_1 x8_1).f1)).toNat * 8)).off + 5, none⟩ = some (.int .i64 ((rd_T130 ((rd_T68 l0 ((rd_T125 x7_1 x8_1).f0)).f0) ((rd_T125 x7_1 x8_1).f1)).f5)) ∧ w'.cell? ⟨(ad572.add ((((rd_T125 x7_1 x8_1).f1)).toNat * 8)).block, (ad572.add ((((rd_T125 x7_1 x8_1).f1)).toNat * 8)).off + 6, none⟩ = some (.slice A572_6 ((rd_T130 ((rd_T68 l0 ((rd_T125 x7_1 x8_1).f0)).f0) ((rd_T125 x7_1 x8_1).f1)).f6).length c572_6) ∧ w'.cell? ⟨(ad572.add ((((rd_T125 x7_1 x8_1).f1)).toNat * 8)).block, (ad572.add ((((rd_T125 x7_1 x8_1).f1)).toNat * 8)).off + 7, none⟩ = some (.slice A572_7 ((rd_T130 ((rd_T68 l0 ((rd_T125 x7_1 x8_1).f0)).f0) ((rd_T125 x7_1 x8_1).f1)).f7).length c572_7)) (ds := []) #[false, false, false, false, false, false, false, false, false, false, false, false, false, false, false, false, false, false] (by kernel_rfl) rfl rfl ⟨hx569_0, hx569_1, ((HB.out.cell (World.block_lt_of_cell? w _ hw570_0)).trans hw570_0), hx571_0, hx571_1, ((HB.out.cell (World.block_lt_of_cell? w _ hw572_0)).trans hw572_0), ((HB.out.cell (World.block_lt_of_cell? w _ hw572_1)).trans hw572_1), ((HB.out.cell (World.block_lt_of_cell? w _ hw572_2)).trans hw572_2), ((HB.out.cell (World.block_lt_of_cell? w _ hw572_3)).trans hw572_3), ((HB.out.cell (World.block_lt_of_cell? w _ hw572_4)).trans hw572_4), ((HB.out.cell (World.block_lt_of_cell? w _ hw572_5)).trans hw572_5), ((HB.out.cell (World.block_lt_of_cell? w _ hw572_6)).trans hw572_6), ((HB.out.cell (World.block_lt_of_cell? w _ hw572_7)).trans hw572_7)⟩ (fun hHeld => ?_); refine with_tabW spec_Needed.tab9 spec_Needed.bits9 (fun HT_ HW_ => ?_)
                 generalize wr.drew = w22 at HO_5 HO_7 BK564 HB HR570_0 HR572_4 HR572_6 HR572_7 hx569_0 hx569_1 hx570_0 hx571_0 hx571_1 hx572_0 hx572_1 hx572_2 hx572_3 hx572_4 hx572_5 hx572_6 hx572_7 hHeld ⊢
                 refine pure_ (i := 0) (N := some 34) (v := ?_) (a' := ?_) #[true, false, false, false, false, false, false, false, false, false, false, false, false, false, false, false, false, false] rfl rfl (any_of HT_.out (by kernel_rfl)) (fun _ _ _ h => h) (Or.inl ⟨by rfl, ?_⟩) ?_ ?_
                 rotate_left
                 · intro w'
                   go_simp
                   with_reducible rfl
                 rotate_left
                 · simp only [Act.put, List.setIfInBounds_toArray, List.set_cons_zero, List.set_cons_succ, i64_w, i32_w]
                   rfl
                 refine pure_ (i := 1) (N := some 35) (v := ?_) (a' := ?_) #[true, true, false, false, false, false, false, false, false, false, false, false, false, false, false, false, false, false] rfl rfl (any_of HT_.out (by kernel_rfl)) (fun _ _ _ h => h) (Or.inl ⟨by rfl, ?_⟩) ?_ ?_
                 rotate_left
                 · intro w'
                   go_simp
                   with_reducible rfl
                 rotate_left
                 · simp only [Act.put, List.setIfInBounds_toArray, List.set_cons_zero, List.set_cons_succ, i64_w, i32_w]
                   rfl
                 refine pure_ (i := 2) (N := some 36) (v := ?_) (a' := ?_) #[true, true, true, false, false, false, false, false, false, false, false, false, false, false, false, false, false, false] rfl rfl (any_of HT_.out (by kernel_rfl)) (fun _ _ _ h => h) (Or.inl ⟨by rfl, ?_⟩) ?_ ?_
                 rotate_left
                 · intro w'
                   go_simp
                   with_reducible rfl
                 rotate_left
                 · simp only [Act.put, List.setIfInBounds_toArray, List.set_cons_zero, List.set_cons_succ, i64_w, i32_w]
                   rfl
                 refine pure_ (i := 3) (N := some 37) (v := ?_) (a' := ?_) #[true, true, true, true, false, false, false, false, false, false, false, false, false, false, false, false, false, false] rfl rfl (any_of HT_.out (by kernel_rfl)) (fun _ _ _ h => h) (Or.inl ⟨by rfl, ?_⟩) ?_ ?_
                 rotate_left
                 · intro w'
                   go_simp
                   with_reducible rfl
                 rotate_left
                 · simp only [Act.put, List.setIfInBounds_toArray, List.set_cons_zero, List.set_cons_succ, i64_w, i32_w]
                   rfl
                 refine pure_ (i := 4) (N := some 38) (v := ?_) (a' := ?_) #[true, true, true, true, true, false, false, false, false, false, false, false, false, false, false, false, false, false] rfl rfl (any_of HT_.out (by kernel_rfl)) (fun _ _ _ h => h) (Or.inl ⟨by rfl, ?_⟩) ?_ ?_
                 rotate_left
                 · intro w'
                   go_simp
                   with_reducible rfl
                 rotate_left
                 · simp only [Act.put, List.setIfInBounds_toArray, List.set_cons_zero, List.set_cons_succ, i64_w, i32_w]
                   rfl
                 refine pure_ (i := 9) (N := some 43) (v := ?_) (a' := ?_) #[true, true, true, true, true, false, false, false, false, true, false, false, false, false, false, false, false, false] rfl rfl (any_of HT_.out (by kernel_rfl)) (fun _ _ _ h => h) (Or.inl ⟨by rfl, ?_⟩) ?_ ?_
                 rotate_left
                 · intro w'
                   go_simp
                   with_reducible rfl
                 rotate_left
                 · simp only [Act.put, List.setIfInBounds_toArray, List.set_cons_zero, List.set_cons_succ, i64_w, i32_w]
                   rfl
                 refine pure_ (i := 10) (N := some 44) (v := ?_) (a' := ?_) #[true, true, true, true, true, false, false, false, false, true, true, false, false, false, false, false, false, false] rfl rfl (any_of HT_.out (by kernel_rfl)) (fun _ _ _ h => h) (Or.inl ⟨by rfl, ?_⟩) ?_ ?_
                 rotate_left
                 · intro w'
                   go_simp
                   with_reducible rfl
                 rotate_left
                 · simp only [Act.put, List.setIfInBounds_toArray, List.set_cons_zero, List.set_cons_succ, i64_w, i32_w]
                   rfl
                 refine pure_ (i := 11) (N := some 45) (v := ?_) (a' := ?_) #[true, true, true, true, true, false, false, false, false, true, true, true, false, false, false, false, false, false] rfl rfl (any_of HT_.out (by kernel_rfl)) (fun _ _ _ h => h) (Or.inl ⟨by rfl, ?_⟩) ?_ ?_
                 rotate_left
                 · intro w'
                   go_simp
                   with_reducible rfl
                 rotate_left
                 · simp only [Act.put, List.setIfInBounds_toArray, List.set_cons_zero, List.set_cons_succ, i64_w, i32_w]
                   rfl
                 refine pure_ (i := 12) (N := some 46) (v := ?_) (a' := ?_) #[true, true, true, true, true, false, false, false, false, true, true, true, true, false, false, false, false, false] rfl rfl (any_of HT_.out (by kernel_rfl)) (fun _ _ _ h => h) (Or.inl ⟨by rfl, ?_⟩) ?_ ?_
                 rotate_left
                 · intro w'
                   go_simp
                   with_reducible rfl
                 rotate_left
                 · simp only [Act.put, List.setIfInBounds_toArray, List.set_cons_zero, List.set_cons_succ, i64_w, i32_w]
                   rfl
                 refine take_ (i := 5) (N := some 39) (v := ?_) (a' := ?_) #[true, true, true, true, true, true, false, false, false, true, true, true, true, false, false, false, false, false] rfl rfl (take_ofW HT_.out HW_.out (by kernel_rfl)) (fun _ _ _ h => h) (Or.inl ⟨by rfl, ?_⟩) hHeld ?_ ?_
                 rotate_left
                 · rintro w' ⟨s0, s1, s2, s3, s4, s5, s6, s7, s8, s9, s10, s11, s12⟩
                   go_simp
                   with_reducible rfl
                 rotate_left
                 · simp only [Act.put, List.setIfInBounds_toArray, List.set_cons_zero, List.set_cons_succ, i64_w, i32_w]
                   rfl
                 refine pure_ (i := 6) (N := some 40) (v := ?_) (a' := ?_) #[true, true, true, true, true, true, true, false, false, true, true, true, true, false, false, false, false, false] rfl rfl (any_of HT_.out (by kernel_rfl)) (fun _ _ _ h => h) (Or.inl ⟨by rfl, ?_⟩) ?_ ?_
                 rotate_left
                 · intro w'
                   go_simp
                   with_reducible rfl
                 rotate_left
                 · simp only [Act.put, List.setIfInBounds_toArray, List.set_cons_zero, List.set_cons_succ, i64_w, i32_w]
                   rfl
                 refine pure_ (i := 7) (N := some 41) (v := ?_) (a' := ?_) #[true, true, true, true, true, true, true, true, false, true, true, true, true, false, false, false, false, false] rfl rfl (any_of HT_.out (by kernel_rfl)) (fun _ _ _ h => h) (Or.inl ⟨by rfl, ?_⟩) ?_ ?_
                 rotate_left
                 · intro w'
                   go_simp
                   with_reducible rfl
                 rotate_left
                 · simp only [Act.put, List.setIfInBounds_toArray, List.set_cons_zero, List.set_cons_succ, i64_w, i32_w]
                   rfl
                 refine take_ (i := 8) (N := some 42) (v := ?_) (a' := ?_) #[true, true, true, true, true, true, true, true, true, true, true, true, true, false, false, false, false, false] rfl rfl (take_ofW HT_.out HW_.out (by kernel_rfl)) (fun _ _ _ h => h) (Or.inl ⟨by rfl, ?_⟩) hHeld ?_ ?_
                 rotate_left
                 · rintro w' ⟨s0, s1, s2, s3, s4, s5, s6, s7, s8, s9, s10, s11, s12⟩
                   go_simp
                   with_reducible rfl
                 rotate_left
                 · simp only [Act.put, List.setIfInBounds_toArray, List.set_cons_zero, List.set_cons_succ, i64_w, i32_w]
                   rfl
                 refine take_ (i := 13) (N := some 47) (v := ?_) (a' := ?_) #[true, true, true, true, true, true, true, true, true, true, true, true, true, true, false, false, false, false] rfl rfl (take_ofW HT_.out HW_.out (by kernel_rfl)) (fun _ _ _ h => h) (Or.inl ⟨by rfl, ?_⟩) hHeld ?_ ?_
                 rotate_left
                 · rintro w' ⟨s0, s1, s2, s3, s4, s5, s6, s7, s8, s9, s10, s11, s12⟩
                   go_simp
                   with_reducible rfl
                 rotate_left
                 · simp only [Act.put, List.setIfInBounds_toArray, List.set_cons_zero, List.set_cons_succ, i64_w, i32_w]
                   rfl
                 refine pure_ (i := 14) (N := some 48) (v := ?_) (a' := ?_) #[true, true, true, true, true, true, true, true, true, true, true, true, true, true, true, false, false, false] rfl rfl (any_of HT_.out (by kernel_rfl)) (fun _ _ _ h => h) (Or.inl ⟨by rfl, ?_⟩) ?_ ?_
                 rotate_left
                 · intro w'
                   go_simp
                   with_reducible rfl
                 rotate_left
                 · simp only [Act.put, List.setIfInBounds_toArray, List.set_cons_zero, List.set_cons_succ, i64_w, i32_w]
                   rfl
                 refine take_ (i := 15) (N := some 49) (v := ?_) (a' := ?_) #[true, true, true, true, true, true, true, true, true, true, true, true, true, true, true, true, false, false] rfl rfl (take_ofW HT_.out HW_.out (by kernel_rfl)) (fun _ _ _ h => h) (Or.inl ⟨by rfl, ?_⟩) hHeld ?_ ?_
                 rotate_left
                 · rintro w' ⟨s0, s1, s2, s3, s4, s5, s6, s7, s8, s9, s10, s11, s12⟩
                   go_simp
                   with_reducible rfl
                 rotate_left
                 · simp only [Act.put, List.setIfInBounds_toArray, List.set_cons_zero, List.set_cons_succ, i64_w, i32_w]
                   rfl
                 refine one_ (i := 16) (N := some 9) #[true, true, true, true, true, true, true, true, true, true, true, true, true, true, true, true, true, false] rfl rfl (one_of HT_.out (by kernel_rfl)) (by decide) (fun K hK => ?_)
                 refine box_step ?hg (N := 9) ?hd (cs := #[.string (⟨#[]⟩ : ByteArray), .int .i64 0, .int .i64 0, .int .i64 0, .slice none 0 0, .int .i64 0, .slice none 0 0, .slice none 0 0]) (t := 130) ?hr ?_; (case hd => rfl); (case hg => rfl); (case hr => first | (go_simp; done) | (go_simp; rfl))
                 intro gb573 hg w23 hbox hb
                 have HS0_ := (hb.cell (World.block_lt_of_cell? _ _ (hHeld.1))).trans (hHeld.1)
                 have HS1_ := (hb.cell (World.block_lt_of_cell? _ _ (hHeld.2.1))).trans (hHeld.2.1)
                 have HS3_ := (hb.cell (World.block_lt_of_cell? _ _ (hHeld.2.2.2.1))).trans (hHeld.2.2.2.1)
                 have HS4_ := (hb.cell (World.block_lt_of_cell? _ _ (hHeld.2.2.2.2.1))).trans (hHeld.2.2.2.2.1)
                 have n0_ := Aside0.mk (Kd.R_below (by (with_reducible repeat (first | apply Kd.R_alloc | apply Kd.R_drewN | apply Kd.R_drew)); exact HO_5.out) hb)
                 have n1_ := Aside0.mk (Kd.R_below (by (with_reducible repeat (first | apply Kd.R_alloc | apply Kd.R_drewN | apply Kd.R_drew)); exact HO_7.out) hb)
                 have n2_ := Aside0.mk (blk_below (g := gb564) (o := .cells #[.int .i64 t562, .int .i64 t563] 125 (0, 0)) (by (with_reducible repeat (first | refine blk_drewN ?_ _ | refine blk_drew ?_ | refine blk_alloc ?_ _)); exact BK564.out) hb)
                 have n3_ := Aside0.mk (below_step (by repeat (first | (with_reducible first | exact HB.out | apply below_alloc | apply pw_below_drewN | apply below_drew1 | refine below_set ?_ GE564.out) | exact HB.out)) hb)
                 have n4_ := Aside0.mk (hbox)
                 have n5_ := Aside0.mk ((by rw [hg]; exact (below_size (by repeat (first | (with_reducible first | exact HB.out | apply below_alloc | apply pw_below_drewN | apply below_drew1 | refine below_set ?_ GE564.out) | exact HB.out))) : w.heap.size ≤ gb573))
                 have n6_ := Aside0.mk ((by rw [hg]; exact (below_size (by repeat (first | (with_reducible first | exact HB.out | apply below_alloc | apply pw_below_drewN | apply below_drew1 | refine below_set ?_ GE564.out) | exact HB.out))) : w.heap.size ≤ gb573))
                 have n7_ := Aside0.mk ((by rw [hg]; exact Nat.ne_of_lt (blk_lt (g := gb564) (o := .cells #[.int .i64 t562, .int .i64 t563] 125 (0, 0)) (by (with_reducible repeat (first | refine blk_drewN ?_ _ | refine blk_drew ?_ | refine blk_alloc ?_ _)); exact BK564.out)) : gb564 ≠ gb573))
                 have n8_ := Aside0.mk ((by rw [hg]; exact Nat.ne_of_gt (blk_lt (g := gb564) (o := .cells #[.int .i64 t562, .int .i64 t563] 125 (0, 0)) (by (with_reducible repeat (first | refine blk_drewN ?_ _ | refine blk_drew ?_ | refine blk_alloc ?_ _)); exact BK564.out)) : gb573 ≠ gb564))
                 clear HO_5
                 clear HO_7
                 clear BK564
                 clear HB
                 have HO_5 := n0_
                 have HO_7 := n1_
                 have BK564 := n2_
                 have HB := n3_
                 have BK573 := n4_
                 have GW573 := n5_
                 have GE573 := n6_
                 have NB564_573 := n7_
                 have NB573_564 := n8_
                 clear n0_ n1_ n2_ n3_ n4_ n5_ n6_ n7_ n8_
                 clear hb hbox hg
                 refine hK.out _ _ ⟨HS0_, HS1_, ((HB.out.cell (World.block_lt_of_cell? w _ hw570_0)).trans hw570_0), HS3_, HS4_, ((HB.out.cell (World.block_lt_of_cell? w _ hw572_0)).trans hw572_0), ((HB.out.cell (World.block_lt_of_cell? w _ hw572_1)).trans hw572_1), ((HB.out.cell (World.block_lt_of_cell? w _ hw572_2)).trans hw572_2), ((HB.out.cell (World.block_lt_of_cell? w _ hw572_3)).trans hw572_3), ((HB.out.cell (World.block_lt_of_cell? w _ hw572_4)).trans hw572_4), ((HB.out.cell (World.block_lt_of_cell? w _ hw572_5)).trans hw572_5), ((HB.out.cell (World.block_lt_of_cell? w _ hw572_6)).trans hw572_6), ((HB.out.cell (World.block_lt_of_cell? w _ hw572_7)).trans hw572_7)⟩ (fun hHeld => ?_)
                 clear hK K
                 refine norm_ (a' := ?_) ?_ ?_
                 rotate_left
                 · show Act.put _ (some 9) _ = _
                   simp only [Act.put, List.setIfInBounds_toArray, List.set_cons_zero, List.set_cons_succ, i64_w, i32_w]
                   rfl
                 refine one_ (i := 17) (N := none) #[true, true, true, true, true, true, true, true, true, true, true, true, true, true, true, true, true, true] rfl rfl (one_of HT_.out (by kernel_rfl)) (by decide) (fun K hK => ?_)
                 have hs24 : w23.cell? ⟨gb573, 0, none⟩ = some (.string (⟨#[]⟩ : ByteArray)) := (blk_cell BK573.out 0).trans rfl
                 have hfs24 := blk_frozen BK573.out 0
                 have hns24_0 := NB564_573.out
                 have hms24_0 := NB573_564.out
                 have hs25 : w23.cell? ⟨gb573, 1, none⟩ = some (.int .i64 0) := (blk_cell BK573.out 1).trans rfl
                 have hfs25 := blk_frozen BK573.out 1
                 have hns25_0 := NB564_573.out
                 have hms25_0 := NB573_564.out
                 have hs26 : w23.cell? ⟨gb573, 2, none⟩ = some (.int .i64 0) := (blk_cell BK573.out 2).trans rfl
                 have hfs26 := blk_frozen BK573.out 2
                 have hns26_0 := NB564_573.out
                 have hms26_0 := NB573_564.out
                 have hs27 : w23.cell? ⟨gb573, 3, none⟩ = some (.int .i64 0) := (blk_cell BK573.out 3).trans rfl
                 have hfs27 := blk_frozen BK573.out 3
                 have hns27_0 := NB564_573.out
                 have hms27_0 := NB573_564.out
                 have hs28 : w23.cell? ⟨gb573, 4, none⟩ = some (.slice none 0 0) := (blk_cell BK573.out 4).trans rfl
                 have hfs28 := blk_frozen BK573.out 4
                 have hns28_0 := NB564_573.out
                 have hms28_0 := NB573_564.out
                 have hs29 : w23.cell? ⟨gb573, 5, none⟩ = some (.int .i64 0) := (blk_cell BK573.out 5).trans rfl
                 have hfs29 := blk_frozen BK573.out 5
                 have hns29_0 := NB564_573.out
                 have hms29_0 := NB573_564.out
                 have hs30 : w23.cell? ⟨gb573, 6, none⟩ = some (.slice none 0 0) := (blk_cell BK573.out 6).trans rfl
                 have hfs30 := blk_frozen BK573.out 6
                 have hns30_0 := NB564_573.out
                 have hms30_0 := NB573_564.out
                 have hs31 : w23.cell? ⟨gb573, 7, none⟩ = some (.slice none 0 0) := (blk_cell BK573.out 7).trans rfl
                 have hfs31 := blk_frozen BK573.out 7
                 have hns31_0 := NB564_573.out
                 have hms31_0 := NB573_564.out
                 refine skip_ (w1 := ?_) (by rfl) rfl ?_ ?_
                 rotate_left
                 · go_simp
                   rfl
                 refine hK.out _ _ ⟨((cell_far (p := ⟨gb573, _, none⟩) (by first | exact Kd.own_blk (Kd.R_ne HO_7.out BK573.out (by decide)) | (rw [add_block]; exact Kd.own_blk (Kd.R_ne HO_7.out BK573.out (by decide))) | (show (Addr.add _ _).block ≠ _; rw [add_block]; exact Kd.own_blk (Kd.R_ne HO_7.out BK573.out (by decide))) | (dsimp only; exact Kd.own_blk (Kd.R_ne HO_7.out BK573.out (by decide)))) _).trans (((cell_far (p := ⟨gb573, _, none⟩) (by first | exact Kd.own_blk (Kd.R_ne HO_7.out BK573.out (by decide)) | (rw [add_block]; exact Kd.own_blk (Kd.R_ne HO_7.out BK573.out (by decide))) | (show (Addr.add _ _).block ≠ _; rw [add_block]; exact Kd.own_blk (Kd.R_ne HO_7.out BK573.out (by decide))) | (dsimp only; exact Kd.own_blk (Kd.R_ne HO_7.out BK573.out (by decide)))) _).trans (((cell_far (p := ⟨gb573, _, none⟩) (by first | exact Kd.own_blk (Kd.R_ne HO_7.out BK573.out (by decide)) | (rw [add_block]; exact Kd.own_blk (Kd.R_ne HO_7.out BK573.out (by decide))) | (show (Addr.add _ _).block ≠ _; rw [add_block]; exact Kd.own_blk (Kd.R_ne HO_7.out BK573.out (by decide))) | (dsimp only; exact Kd.own_blk (Kd.R_ne HO_7.out BK573.out (by decide)))) _).trans (((cell_far (p := ⟨gb573, _, none⟩) (by first | exact Kd.own_blk (Kd.R_ne HO_7.out BK573.out (by decide)) | (rw [add_block]; exact Kd.own_blk (Kd.R_ne HO_7.out BK573.out (by decide))) | (show (Addr.add _ _).block ≠ _; rw [add_block]; exact Kd.own_blk (Kd.R_ne HO_7.out BK573.out (by decide))) | (dsimp only; exact Kd.own_blk (Kd.R_ne HO_7.out BK573.out (by decide)))) _).trans (((cell_far (p := ⟨gb573, _, none⟩) (by first | exact Kd.own_blk (Kd.R_ne HO_7.out BK573.out (by decide)) | (rw [add_block]; exact Kd.own_blk (Kd.R_ne HO_7.out BK573.out (by decide))) | (show (Addr.add _ _).block ≠ _; rw [add_block]; exact Kd.own_blk (Kd.R_ne HO_7.out BK573.out (by decide))) | (dsimp only; exact Kd.own_blk (Kd.R_ne HO_7.out BK573.out (by decide)))) _).trans (((cell_far (p := ⟨gb573, _, none⟩) (by first | exact Kd.own_blk (Kd.R_ne HO_7.out BK573.out (by decide)) | (rw [add_block]; exact Kd.own_blk (Kd.R_ne HO_7.out BK573.out (by decide))) | (show (Addr.add _ _).block ≠ _; rw [add_block]; exact Kd.own_blk (Kd.R_ne HO_7.out BK573.out (by decide))) | (dsimp only; exact Kd.own_blk (Kd.R_ne HO_7.out BK573.out (by decide)))) _).trans (((cell_far (p := ⟨gb573, _, none⟩) (by first | exact Kd.own_blk (Kd.R_ne HO_7.out BK573.out (by decide)) | (rw [add_block]; exact Kd.own_blk (Kd.R_ne HO_7.out BK573.out (by decide))) | (show (Addr.add _ _).block ≠ _; rw [add_block]; exact Kd.own_blk (Kd.R_ne HO_7.out BK573.out (by decide))) | (dsimp only; exact Kd.own_blk (Kd.R_ne HO_7.out BK573.out (by decide)))) _).trans (((cell_far (p := ⟨gb573, _, none⟩) (by first | exact Kd.own_blk (Kd.R_ne HO_7.out BK573.out (by decide)) | (rw [add_block]; exact Kd.own_blk (Kd.R_ne HO_7.out BK573.out (by decide))) | (show (Addr.add _ _).block ≠ _; rw [add_block]; exact Kd.own_blk (Kd.R_ne HO_7.out BK573.out (by decide))) | (dsimp only; exact Kd.own_blk (Kd.R_ne HO_7.out BK573.out (by decide)))) _).trans (hHeld.1)))))))))))))))), ((cell_far (p := ⟨gb573, _, none⟩) (by first | exact Kd.own_blk (Kd.R_ne HO_7.out BK573.out (by decide)) | (rw [add_block]; exact Kd.own_blk (Kd.R_ne HO_7.out BK573.out (by decide))) | (show (Addr.add _ _).block ≠ _; rw [add_block]; exact Kd.own_blk (Kd.R_ne HO_7.out BK573.out (by decide))) | (dsimp only; exact Kd.own_blk (Kd.R_ne HO_7.out BK573.out (by decide)))) _).trans (((cell_far (p := ⟨gb573, _, none⟩) (by first | exact Kd.own_blk (Kd.R_ne HO_7.out BK573.out (by decide)) | (rw [add_block]; exact Kd.own_blk (Kd.R_ne HO_7.out BK573.out (by decide))) | (show (Addr.add _ _).block ≠ _; rw [add_block]; exact Kd.own_blk (Kd.R_ne HO_7.out BK573.out (by decide))) | (dsimp only; exact Kd.own_blk (Kd.R_ne HO_7.out BK573.out (by decide)))) _).trans (((cell_far (p := ⟨gb573, _, none⟩) (by first | exact Kd.own_blk (Kd.R_ne HO_7.out BK573.out (by decide)) | (rw [add_block]; exact Kd.own_blk (Kd.R_ne HO_7.out BK573.out (by decide))) | (show (Addr.add _ _).block ≠ _; rw [add_block]; exact Kd.own_blk (Kd.R_ne HO_7.out BK573.out (by decide))) | (dsimp only; exact Kd.own_blk (Kd.R_ne HO_7.out BK573.out (by decide)))) _).trans (((cell_far (p := ⟨gb573, _, none⟩) (by first | exact Kd.own_blk (Kd.R_ne HO_7.out BK573.out (by decide)) | (rw [add_block]; exact Kd.own_blk (Kd.R_ne HO_7.out BK573.out (by decide))) | (show (Addr.add _ _).block ≠ _; rw [add_block]; exact Kd.own_blk (Kd.R_ne HO_7.out BK573.out (by decide))) | (dsimp only; exact Kd.own_blk (Kd.R_ne HO_7.out BK573.out (by decide)))) _).trans (((cell_far (p := ⟨gb573, _, none⟩) (by first | exact Kd.own_blk (Kd.R_ne HO_7.out BK573.out (by decide)) | (rw [add_block]; exact Kd.own_blk (Kd.R_ne HO_7.out BK573.out (by decide))) | (show (Addr.add _ _).block ≠ _; rw [add_block]; exact Kd.own_blk (Kd.R_ne HO_7.out BK573.out (by decide))) | (dsimp only; exact Kd.own_blk (Kd.R_ne HO_7.out BK573.out (by decide)))) _).trans (((cell_far (p := ⟨gb573, _, none⟩) (by first | exact Kd.own_blk (Kd.R_ne HO_7.out BK573.out (by decide)) | (rw [add_block]; exact Kd.own_blk (Kd.R_ne HO_7.out BK573.out (by decide))) | (show (Addr.add _ _).block ≠ _; rw [add_block]; exact Kd.own_blk (Kd.R_ne HO_7.out BK573.out (by decide))) | (dsimp only; exact Kd.own_blk (Kd.R_ne HO_7.out BK573.out (by decide)))) _).trans (((cell_far (p := ⟨gb573, _, none⟩) (by first | exact Kd.own_blk (Kd.R_ne HO_7.out BK573.out (by decide)) | (rw [add_block]; exact Kd.own_blk (Kd.R_ne HO_7.out BK573.out (by decide))) | (show (Addr.add _ _).block ≠ _; rw [add_block]; exact Kd.own_blk (Kd.R_ne HO_7.out BK573.out (by decide))) | (dsimp only; exact Kd.own_blk (Kd.R_ne HO_7.out BK573.out (by decide)))) _).trans (((cell_far (p := ⟨gb573, _, none⟩) (by first | exact Kd.own_blk (Kd.R_ne HO_7.out BK573.out (by decide)) | (rw [add_block]; exact Kd.own_blk (Kd.R_ne HO_7.out BK573.out (by decide))) | (show (Addr.add _ _).block ≠ _; rw [add_block]; exact Kd.own_blk (Kd.R_ne HO_7.out BK573.out (by decide))) | (dsimp only; exact Kd.own_blk (Kd.R_ne HO_7.out BK573.out (by decide)))) _).trans (hHeld.2.1)))))))))))))))), ((cell_far (p := ⟨gb573, _, none⟩) (by first | exact Nat.ne_of_lt (Nat.lt_of_lt_of_le (by have := World.block_lt_of_cell? _ _ hw570_0; first | rwa [add_block] at this | exact this) GW573.out) | (rw [add_block]; exact Nat.ne_of_lt (Nat.lt_of_lt_of_le (by have := World.block_lt_of_cell? _ _ hw570_0; first | rwa [add_block] at this | exact this) GW573.out)) | (show (Addr.add _ _).block ≠ _; rw [add_block]; exact Nat.ne_of_lt (Nat.lt_of_lt_of_le (by have := World.block_lt_of_cell? _ _ hw570_0; first | rwa [add_block] at this | exact this) GW573.out)) | (dsimp only; exact Nat.ne_of_lt (Nat.lt_of_lt_of_le (by have := World.block_lt_of_cell? _ _ hw570_0; first | rwa [add_block] at this | exact this) GW573.out))) _).trans (((cell_far (p := ⟨gb573, _, none⟩) (by first | exact Nat.ne_of_lt (Nat.lt_of_lt_of_le (by have := World.block_lt_of_cell? _ _ hw570_0; first | rwa [add_block] at this | exact this) GW573.out) | (rw [add_block]; exact Nat.ne_of_lt (Nat.lt_of_lt_of_le (by have := World.block_lt_of_cell? _ _ hw570_0; first | rwa [add_block] at this | exact this) GW573.out)) | (show (Addr.add _ _).block ≠ _; rw [add_block]; exact Nat.ne_of_lt (Nat.lt_of_lt_of_le (by have := World.block_lt_of_cell? _ _ hw570_0; first | rwa [add_block] at this | exact this) GW573.out)) | (dsimp only; exact Nat.ne_of_lt (Nat.lt_of_lt_of_le (by have := World.block_lt_of_cell? _ _ hw570_0; first | rwa [add_block] at this | exact this) GW573.out))) _).trans (((cell_far (p := ⟨gb573, _, none⟩) (by first | exact Nat.ne_of_lt (Nat.lt_of_lt_of_le (by have := World.block_lt_of_cell? _ _ hw570_0; first | rwa [add_block] at this | exact this) GW573.out) | (rw [add_block]; exact Nat.ne_of_lt (Nat.lt_of_lt_of_le (by have := World.block_lt_of_cell? _ _ hw570_0; first | rwa [add_block] at this | exact this) GW573.out)) | (show (Addr.add _ _).block ≠ _; rw [add_block]; exact Nat.ne_of_lt (Nat.lt_of_lt_of_le (by have := World.block_lt_of_cell? _ _ hw570_0; first | rwa [add_block] at this | exact this) GW573.out)) | (dsimp only; exact Nat.ne_of_lt (Nat.lt_of_lt_of_le (by have := World.block_lt_of_cell? _ _ hw570_0; first | rwa [add_block] at this | exact this) GW573.out))) _).trans (((cell_far (p := ⟨gb573, _, none⟩) (by first | exact Nat.ne_of_lt (Nat.lt_of_lt_of_le (by have := World.block_lt_of_cell? _ _ hw570_0; first | rwa [add_block] at this | exact this) GW573.out) | (rw [add_block]; exact Nat.ne_of_lt (Nat.lt_of_lt_of_le (by have := World.block_lt_of_cell? _ _ hw570_0; first | rwa [add_block] at this | exact this) GW573.out)) | (show (Addr.add _ _).block ≠ _; rw [add_block]; exact Nat.ne_of_lt (Nat.lt_of_lt_of_le (by have := World.block_lt_of_cell? _ _ hw570_0; first | rwa [add_block] at this | exact this) GW573.out)) | (dsimp only; exact Nat.ne_of_lt (Nat.lt_of_lt_of_le (by have := World.block_lt_of_cell? _ _ hw570_0; first | rwa [add_block] at this | exact this) GW573.out))) _).trans (((cell_far (p := ⟨gb573, _, none⟩) (by first | exact Nat.ne_of_lt (Nat.lt_of_lt_of_le (by have := World.block_lt_of_cell? _ _ hw570_0; first | rwa [add_block] at this | exact this) GW573.out) | (rw [add_block]; exact Nat.ne_of_lt (Nat.lt_of_lt_of_le (by have := World.block_lt_of_cell? _ _ hw570_0; first | rwa [add_block] at this | exact this) GW573.out)) | (show (Addr.add _ _).block ≠ _; rw [add_block]; exact Nat.ne_of_lt (Nat.lt_of_lt_of_le (by have := World.block_lt_of_cell? _ _ hw570_0; first | rwa [add_block] at this | exact this) GW573.out)) | (dsimp only; exact Nat.ne_of_lt (Nat.lt_of_lt_of_le (by have := World.block_lt_of_cell? _ _ hw570_0; first | rwa [add_block] at this | exact this) GW573.out))) _).trans (((cell_far (p := ⟨gb573, _, none⟩) (by first | exact Nat.ne_of_lt (Nat.lt_of_lt_of_le (by have := World.block_lt_of_cell? _ _ hw570_0; first | rwa [add_block] at this | exact this) GW573.out) | (rw [add_block]; exact Nat.ne_of_lt (Nat.lt_of_lt_of_le (by have := World.block_lt_of_cell? _ _ hw570_0; first | rwa [add_block] at this | exact this) GW573.out)) | (show (Addr.add _ _).block ≠ _; rw [add_block]; exact Nat.ne_of_lt (Nat.lt_of_lt_of_le (by have := World.block_lt_of_cell? _ _ hw570_0; first | rwa [add_block] at this | exact this) GW573.out)) | (dsimp only; exact Nat.ne_of_lt (Nat.lt_of_lt_of_le (by have := World.block_lt_of_cell? _ _ hw570_0; first | rwa [add_block] at this | exact this) GW573.out))) _).trans (((cell_far (p := ⟨gb573, _, none⟩) (by first | exact Nat.ne_of_lt (Nat.lt_of_lt_of_le (by have := World.block_lt_of_cell? _ _ hw570_0; first | rwa [add_block] at this | exact this) GW573.out) | (rw [add_block]; exact Nat.ne_of_lt (Nat.lt_of_lt_of_le (by have := World.block_lt_of_cell? _ _ hw570_0; first | rwa [add_block] at this | exact this) GW573.out)) | (show (Addr.add _ _).block ≠ _; rw [add_block]; exact Nat.ne_of_lt (Nat.lt_of_lt_of_le (by have := World.block_lt_of_cell? _ _ hw570_0; first | rwa [add_block] at this | exact this) GW573.out)) | (dsimp only; exact Nat.ne_of_lt (Nat.lt_of_lt_of_le (by have := World.block_lt_of_cell? _ _ hw570_0; first | rwa [add_block] at this | exact this) GW573.out))) _).trans (((cell_far (p := ⟨gb573, _, none⟩) (by first | exact Nat.ne_of_lt (Nat.lt_of_lt_of_le (by have := World.block_lt_of_cell? _ _ hw570_0; first | rwa [add_block] at this | exact this) GW573.out) | (rw [add_block]; exact Nat.ne_of_lt (Nat.lt_of_lt_of_le (by have := World.block_lt_of_cell? _ _ hw570_0; first | rwa [add_block] at this | exact this) GW573.out)) | (show (Addr.add _ _).block ≠ _; rw [add_block]; exact Nat.ne_of_lt (Nat.lt_of_lt_of_le (by have := World.block_lt_of_cell? _ _ hw570_0; first | rwa [add_block] at this | exact this) GW573.out)) | (dsimp only; exact Nat.ne_of_lt (Nat.lt_of_lt_of_le (by have := World.block_lt_of_cell? _ _ hw570_0; first | rwa [add_block] at this | exact this) GW573.out))) _).trans (hHeld.2.2.1)))))))))))))))), ((cell_far (p := ⟨gb573, _, none⟩) (by first | exact Kd.own_blk (Kd.R_ne HO_7.out BK573.out (by decide)) | (rw [add_block]; exact Kd.own_blk (Kd.R_ne HO_7.out BK573.out (by decide))) | (show (Addr.add _ _).block ≠ _; rw [add_block]; exact Kd.own_blk (Kd.R_ne HO_7.out BK573.out (by decide))) | (dsimp only; exact Kd.own_blk (Kd.R_ne HO_7.out BK573.out (by decide)))) _).trans (((cell_far (p := ⟨gb573, _, none⟩) (by first | exact Kd.own_blk (Kd.R_ne HO_7.out BK573.out (by decide)) | (rw [add_block]; exact Kd.own_blk (Kd.R_ne HO_7.out BK573.out (by decide))) | (show (Addr.add _ _).block ≠ _; rw [add_block]; exact Kd.own_blk (Kd.R_ne HO_7.out BK573.out (by decide))) | (dsimp only; exact Kd.own_blk (Kd.R_ne HO_7.out BK573.out (by decide)))) _).trans (((cell_far (p := ⟨gb573, _, none⟩) (by first | exact Kd.own_blk (Kd.R_ne HO_7.out BK573.out (by decide)) | (rw [add_block]; exact Kd.own_blk (Kd.R_ne HO_7.out BK573.out (by decide))) | (show (Addr.add _ _).block ≠ _; rw [add_block]; exact Kd.own_blk (Kd.R_ne HO_7.out BK573.out (by decide))) | (dsimp only; exact Kd.own_blk (Kd.R_ne HO_7.out BK573.out (by decide)))) _).trans (((cell_far (p := ⟨gb573, _, none⟩) (by first | exact Kd.own_blk (Kd.R_ne HO_7.out BK573.out (by decide)) | (rw [add_block]; exact Kd.own_blk (Kd.R_ne HO_7.out BK573.out (by decide))) | (show (Addr.add _ _).block ≠ _; rw [add_block]; exact Kd.own_blk (Kd.R_ne HO_7.out BK573.out (by decide))) | (dsimp only; exact Kd.own_blk (Kd.R_ne HO_7.out BK573.out (by decide)))) _).trans (((cell_far (p := ⟨gb573, _, none⟩) (by first | exact Kd.own_blk (Kd.R_ne HO_7.out BK573.out (by decide)) | (rw [add_block]; exact Kd.own_blk (Kd.R_ne HO_7.out BK573.out (by decide))) | (show (Addr.add _ _).block ≠ _; rw [add_block]; exact Kd.own_blk (Kd.R_ne HO_7.out BK573.out (by decide))) | (dsimp only; exact Kd.own_blk (Kd.R_ne HO_7.out BK573.out (by decide)))) _).trans (((cell_far (p := ⟨gb573, _, none⟩) (by first | exact Kd.own_blk (Kd.R_ne HO_7.out BK573.out (by decide)) | (rw [add_block]; exact Kd.own_blk (Kd.R_ne HO_7.out BK573.out (by decide))) | (show (Addr.add _ _).block ≠ _; rw [add_block]; exact Kd.own_blk (Kd.R_ne HO_7.out BK573.out (by decide))) | (dsimp only; exact Kd.own_blk (Kd.R_ne HO_7.out BK573.out (by decide)))) _).trans (((cell_far (p := ⟨gb573, _, none⟩) (by first | exact Kd.own_blk (Kd.R_ne HO_7.out BK573.out (by decide)) | (rw [add_block]; exact Kd.own_blk (Kd.R_ne HO_7.out BK573.out (by decide))) | (show (Addr.add _ _).block ≠ _; rw [add_block]; exact Kd.own_blk (Kd.R_ne HO_7.out BK573.out (by decide))) | (dsimp only; exact Kd.own_blk (Kd.R_ne HO_7.out BK573.out (by decide)))) _).trans (((cell_far (p := ⟨gb573, _, none⟩) (by first | exact Kd.own_blk (Kd.R_ne HO_7.out BK573.out (by decide)) | (rw [add_block]; exact Kd.own_blk (Kd.R_ne HO_7.out BK573.out (by decide))) | (show (Addr.add _ _).block ≠ _; rw [add_block]; exact Kd.own_blk (Kd.R_ne HO_7.out BK573.out (by decide))) | (dsimp only; exact Kd.own_blk (Kd.R_ne HO_7.out BK573.out (by decide)))) _).trans (hHeld.2.2.2.1)))))))))))))))), ((cell_far (p := ⟨gb573, _, none⟩) (by first | exact Kd.own_blk (Kd.R_ne HO_7.out BK573.out (by decide)) | (rw [add_block]; exact Kd.own_blk (Kd.R_ne HO_7.out BK573.out (by decide))) | (show (Addr.add _ _).block ≠ _; rw [add_block]; exact Kd.own_blk (Kd.R_ne HO_7.out BK573.out (by decide))) | (dsimp only; exact Kd.own_blk (Kd.R_ne HO_7.out BK573.out (by decide)))) _).trans (((cell_far (p := ⟨gb573, _, none⟩) (by first | exact Kd.own_blk (Kd.R_ne HO_7.out BK573.out (by decide)) | (rw [add_block]; exact Kd.own_blk (Kd.R_ne HO_7.out BK573.out (by decide))) | (show (Addr.add _ _).block ≠ _; rw [add_block]; exact Kd.own_blk (Kd.R_ne HO_7.out BK573.out (by decide))) | (dsimp only; exact Kd.own_blk (Kd.R_ne HO_7.out BK573.out (by decide)))) _).trans (((cell_far (p := ⟨gb573, _, none⟩) (by first | exact Kd.own_blk (Kd.R_ne HO_7.out BK573.out (by decide)) | (rw [add_block]; exact Kd.own_blk (Kd.R_ne HO_7.out BK573.out (by decide))) | (show (Addr.add _ _).block ≠ _; rw [add_block]; exact Kd.own_blk (Kd.R_ne HO_7.out BK573.out (by decide))) | (dsimp only; exact Kd.own_blk (Kd.R_ne HO_7.out BK573.out (by decide)))) _).trans (((cell_far (p := ⟨gb573, _, none⟩) (by first | exact Kd.own_blk (Kd.R_ne HO_7.out BK573.out (by decide)) | (rw [add_block]; exact Kd.own_blk (Kd.R_ne HO_7.out BK573.out (by decide))) | (show (Addr.add _ _).block ≠ _; rw [add_block]; exact Kd.own_blk (Kd.R_ne HO_7.out BK573.out (by decide))) | (dsimp only; exact Kd.own_blk (Kd.R_ne HO_7.out BK573.out (by decide)))) _).trans (((cell_far (p := ⟨gb573, _, none⟩) (by first | exact Kd.own_blk (Kd.R_ne HO_7.out BK573.out (by decide)) | (rw [add_block]; exact Kd.own_blk (Kd.R_ne HO_7.out BK573.out (by decide))) | (show (Addr.add _ _).block ≠ _; rw [add_block]; exact Kd.own_blk (Kd.R_ne HO_7.out BK573.out (by decide))) | (dsimp only; exact Kd.own_blk (Kd.R_ne HO_7.out BK573.out (by decide)))) _).trans (((cell_far (p := ⟨gb573, _, none⟩) (by first | exact Kd.own_blk (Kd.R_ne HO_7.out BK573.out (by decide)) | (rw [add_block]; exact Kd.own_blk (Kd.R_ne HO_7.out BK573.out (by decide))) | (show (Addr.add _ _).block ≠ _; rw [add_block]; exact Kd.own_blk (Kd.R_ne HO_7.out BK573.out (by decide))) | (dsimp only; exact Kd.own_blk (Kd.R_ne HO_7.out BK573.out (by decide)))) _).trans (((cell_far (p := ⟨gb573, _, none⟩) (by first | exact Kd.own_blk (Kd.R_ne HO_7.out BK573.out (by decide)) | (rw [add_block]; exact Kd.own_blk (Kd.R_ne HO_7.out BK573.out (by decide))) | (show (Addr.add _ _).block ≠ _; rw [add_block]; exact Kd.own_blk (Kd.R_ne HO_7.out BK573.out (by decide))) | (dsimp only; exact Kd.own_blk (Kd.R_ne HO_7.out BK573.out (by decide)))) _).trans (((cell_far (p := ⟨gb573, _, none⟩) (by first | exact Kd.own_blk (Kd.R_ne HO_7.out BK573.out (by decide)) | (rw [add_block]; exact Kd.own_blk (Kd.R_ne HO_7.out BK573.out (by decide))) | (show (Addr.add _ _).block ≠ _; rw [add_block]; exact Kd.own_blk (Kd.R_ne HO_7.out BK573.out (by decide))) | (dsimp only; exact Kd.own_blk (Kd.R_ne HO_7.out BK573.out (by decide)))) _).trans (hHeld.2.2.2.2.1)))))))))))))))), ((cell_far (p := ⟨gb573, _, none⟩) (by first | exact Nat.ne_of_lt (Nat.lt_of_lt_of_le (by have := World.block_lt_of_cell? _ _ hw572_0; first | rwa [add_block] at this | exact this) GW573.out) | (rw [add_block]; exact Nat.ne_of_lt (Nat.lt_of_lt_of_le (by have := World.block_lt_of_cell? _ _ hw572_0; first | rwa [add_block] at this | exact this) GW573.out)) | (show (Addr.add _ _).block ≠ _; rw [add_block]; exact Nat.ne_of_lt (Nat.lt_of_lt_of_le (by have := World.block_lt_of_cell? _ _ hw572_0; first | rwa [add_block] at this | exact this) GW573.out)) | (dsimp only; exact Nat.ne_of_lt (Nat.lt_of_lt_of_le (by have := World.block_lt_of_cell? _ _ hw572_0; first | rwa [add_block] at this | exact this) GW573.out))) _).trans (((cell_far (p := ⟨gb573, _, none⟩) (by first | exact Nat.ne_of_lt (Nat.lt_of_lt_of_le (by have := World.block_lt_of_cell? _ _ hw572_0; first | rwa [add_block] at this | exact this) GW573.out) | (rw [add_block]; exact Nat.ne_of_lt (Nat.lt_of_lt_of_le (by have := World.block_lt_of_cell? _ _ hw572_0; first | rwa [add_block] at this | exact this) GW573.out)) | (show (Addr.add _ _).block ≠ _; rw [add_block]; exact Nat.ne_of_lt (Nat.lt_of_lt_of_le (by have := World.block_lt_of_cell? _ _ hw572_0; first | rwa [add_block] at this | exact this) GW573.out)) | (dsimp only; exact Nat.ne_of_lt (Nat.lt_of_lt_of_le (by have := World.block_lt_of_cell? _ _ hw572_0; first | rwa [add_block] at this | exact this) GW573.out))) _).trans (((cell_far (p := ⟨gb573, _, none⟩) (by first | exact Nat.ne_of_lt (Nat.lt_of_lt_of_le (by have := World.block_lt_of_cell? _ _ hw572_0; first | rwa [add_block] at this | exact this) GW573.out) | (rw [add_block]; exact Nat.ne_of_lt (Nat.lt_of_lt_of_le (by have := World.block_lt_of_cell? _ _ hw572_0; first | rwa [add_block] at this | exact this) GW573.out)) | (show (Addr.add _ _).block ≠ _; rw [add_block]; exact Nat.ne_of_lt (Nat.lt_of_lt_of_le (by have := World.block_lt_of_cell? _ _ hw572_0; first | rwa [add_block] at this | exact this) GW573.out)) | (dsimp only; exact Nat.ne_of_lt (Nat.lt_of_lt_of_le (by have := World.block_lt_of_cell? _ _ hw572_0; first | rwa [add_block] at this | exact this) GW573.out))) _).trans (((cell_far (p := ⟨gb573, _, none⟩) (by first | exact Nat.ne_of_lt (Nat.lt_of_lt_of_le (by have := World.block_lt_of_cell? _ _ hw572_0; first | rwa [add_block] at this | exact this) GW573.out) | (rw [add_block]; exact Nat.ne_of_lt (Nat.lt_of_lt_of_le (by have := World.block_lt_of_cell? _ _ hw572_0; first | rwa [add_block] at this | exact this) GW573.out)) | (show (Addr.add _ _).block ≠ _; rw [add_block]; exact Nat.ne_of_lt (Nat.lt_of_lt_of_le (by have := World.block_lt_of_cell? _ _ hw572_0; first | rwa [add_block] at this | exact this) GW573.out)) | (dsimp only; exact Nat.ne_of_lt (Nat.lt_of_lt_of_le (by have := World.block_lt_of_cell? _ _ hw572_0; first | rwa [add_block] at this | exact this) GW573.out))) _).trans (((cell_far (p := ⟨gb573, _, none⟩) (by first | exact Nat.ne_of_lt (Nat.lt_of_lt_of_le (by have := World.block_lt_of_cell? _ _ hw572_0; first | rwa [add_block] at this | exact this) GW573.out) | (rw [add_block]; exact Nat.ne_of_lt (Nat.lt_of_lt_of_le (by have := World.block_lt_of_cell? _ _ hw572_0; first | rwa [add_block] at this | exact this) GW573.out)) | (show (Addr.add _ _).block ≠ _; rw [add_block]; exact Nat.ne_of_lt (Nat.lt_of_lt_of_le (by have := World.block_lt_of_cell? _ _ hw572_0; first | rwa [add_block] at this | exact this) GW573.out)) | (dsimp only; exact Nat.ne_of_lt (Nat.lt_of_lt_of_le (by have := World.block_lt_of_cell? _ _ hw572_0; first | rwa [add_block] at this | exact this) GW573.out))) _).trans (((cell_far (p := ⟨gb573, _, none⟩) (by first | exact Nat.ne_of_lt (Nat.lt_of_lt_of_le (by have := World.block_lt_of_cell? _ _ hw572_0; first | rwa [add_block] at this | exact this) GW573.out) | (rw [add_block]; exact Nat.ne_of_lt (Nat.lt_of_lt_of_le (by have := World.block_lt_of_cell? _ _ hw572_0; first | rwa [add_block] at this | exact this) GW573.out)) | (show (Addr.add _ _).block ≠ _; rw [add_block]; exact Nat.ne_of_lt (Nat.lt_of_lt_of_le (by have := World.block_lt_of_cell? _ _ hw572_0; first | rwa [add_block] at this | exact this) GW573.out)) | (dsimp only; exact Nat.ne_of_lt (Nat.lt_of_lt_of_le (by have := World.block_lt_of_cell? _ _ hw572_0; first | rwa [add_block] at this | exact this) GW573.out))) _).trans (((cell_far (p := ⟨gb573, _, none⟩) (by first | exact Nat.ne_of_lt (Nat.lt_of_lt_of_le (by have := World.block_lt_of_cell? _ _ hw572_0; first | rwa [add_block] at this | exact this) GW573.out) | (rw [add_block]; exact Nat.ne_of_lt (Nat.lt_of_lt_of_le (by have := World.block_lt_of_cell? _ _ hw572_0; first | rwa [add_block] at this | exact this) GW573.out)) | (show (Addr.add _ _).block ≠ _; rw [add_block]; exact Nat.ne_of_lt (Nat.lt_of_lt_of_le (by have := World.block_lt_of_cell? _ _ hw572_0; first | rwa [add_block] at this | exact this) GW573.out)) | (dsimp only; exact Nat.ne_of_lt (Nat.lt_of_lt_of_le (by have := World.block_lt_of_cell? _ _ hw572_0; first | rwa [add_block] at this | exact this) GW573.out))) _).trans (((cell_far (p := ⟨gb573, _, none⟩) (by first | exact Nat.ne_of_lt (Nat.lt_of_lt_of_le (by have := World.block_lt_of_cell? _ _ hw572_0; first | rwa [add_block] at this | exact this) GW573.out) | (rw [add_block]; exact Nat.ne_of_lt (Nat.lt_of_lt_of_le (by have := World.block_lt_of_cell? _ _ hw572_0; first | rwa [add_block] at this | exact this) GW573.out)) | (show (Addr.add _ _).block ≠ _; rw [add_block]; exact Nat.ne_of_lt (Nat.lt_of_lt_of_le (by have := World.block_lt_of_cell? _ _ hw572_0; first | rwa [add_block] at this | exact this) GW573.out)) | (dsimp only; exact Nat.ne_of_lt (Nat.lt_of_lt_of_le (by have := World.block_lt_of_cell? _ _ hw572_0; first | rwa [add_block] at this | exact this) GW573.out))) _).trans (hHeld.2.2.2.2.2.1)))))))))))))))), ((cell_far (p := ⟨gb573, _, none⟩) (by first | exact Nat.ne_of_lt (Nat.lt_of_lt_of_le (by have := World.block_lt_of_cell? _ _ hw572_1; first | rwa [add_block] at this | exact this) GW573.out) | (rw [add_block]; exact Nat.ne_of_lt (Nat.lt_of_lt_of_le (by have := World.block_lt_of_cell? _ _ hw572_1; first | rwa [add_block] at this | exact this) GW573.out)) | (show (Addr.add _ _).block ≠ _; rw [add_block]; exact Nat.ne_of_lt (Nat.lt_of_lt_of_le (by have := World.block_lt_of_cell? _ _ hw572_1; first | rwa [add_block] at this | exact this) GW573.out)) | (dsimp only; exact Nat.ne_of_lt (Nat.lt_of_lt_of_le (by have := World.block_lt_of_cell? _ _ hw572_1; first | rwa [add_block] at this | exact this) GW573.out))) _).trans (((cell_far (p := ⟨gb573, _, none⟩) (by first | exact Nat.ne_of_lt (Nat.lt_of_lt_of_le (by have := World.block_lt_of_cell? _ _ hw572_1; first | rwa [add_block] at this | exact this) GW573.out) | (rw [add_block]; exact Nat.ne_of_lt (Nat.lt_of_lt_of_le (by have := World.block_lt_of_cell? _ _ hw572_1; first | rwa [add_block] at this | exact this) GW573.out)) | (show (Addr.add _ _).block ≠ _; rw [add_block]; exact Nat.ne_of_lt (Nat.lt_of_lt_of_le (by have := World.block_lt_of_cell? _ _ hw572_1; first | rwa [add_block] at this | exact this) GW573.out)) | (dsimp only; exact Nat.ne_of_lt (Nat.lt_of_lt_of_le (by have := World.block_lt_of_cell? _ _ hw572_1; first | rwa [add_block] at this | exact this) GW573.out))) _).trans (((cell_far (p := ⟨gb573, _, none⟩) (by first | exact Nat.ne_of_lt (Nat.lt_of_lt_of_le (by have := World.block_lt_of_cell? _ _ hw572_1; first | rwa [add_block] at this | exact this) GW573.out) | (rw [add_block]; exact Nat.ne_of_lt (Nat.lt_of_lt_of_le (by have := World.block_lt_of_cell? _ _ hw572_1; first | rwa [add_block] at this | exact this) GW573.out)) | (show (Addr.add _ _).block ≠ _; rw [add_block]; exact Nat.ne_of_lt (Nat.lt_of_lt_of_le (by have := World.block_lt_of_cell? _ _ hw572_1; first | rwa [add_block] at this | exact this) GW573.out)) | (dsimp only; exact Nat.ne_of_lt (Nat.lt_of_lt_of_le (by have := World.block_lt_of_cell? _ _ hw572_1; first | rwa [add_block] at this | exact this) GW573.out))) _).trans (((cell_far (p := ⟨gb573, _, none⟩) (by first | exact Nat.ne_of_lt (Nat.lt_of_lt_of_le (by have := World.block_lt_of_cell? _ _ hw572_1; first | rwa [add_block] at this | exact this) GW573.out) | (rw [add_block]; exact Nat.ne_of_lt (Nat.lt_of_lt_of_le (by have := World.block_lt_of_cell? _ _ hw572_1; first | rwa [add_block] at this | exact this) GW573.out)) | (show (Addr.add _ _).block ≠ _; rw [add_block]; exact Nat.ne_of_lt (Nat.lt_of_lt_of_le (by have := World.block_lt_of_cell? _ _ hw572_1; first | rwa [add_block] at this | exact this) GW573.out)) | (dsimp only; exact Nat.ne_of_lt (Nat.lt_of_lt_of_le (by have := World.block_lt_of_cell? _ _ hw572_1; first | rwa [add_block] at this | exact this) GW573.out))) _).trans (((cell_far (p := ⟨gb573, _, none⟩) (by first | exact Nat.ne_of_lt (Nat.lt_of_lt_of_le (by have := World.block_lt_of_cell? _ _ hw572_1; first | rwa [add_block] at this | exact this) GW573.out) | (rw [add_block]; exact Nat.ne_of_lt (Nat.lt_of_lt_of_le (by have := World.block_lt_of_cell? _ _ hw572_1; first | rwa [add_block] at this | exact this) GW573.out)) | (show (Addr.add _ _).block ≠ _; rw [add_block]; exact Nat.ne_of_lt (Nat.lt_of_lt_of_le (by have := World.block_lt_of_cell? _ _ hw572_1; first | rwa [add_block] at this | exact this) GW573.out)) | (dsimp only; exact Nat.ne_of_lt (Nat.lt_of_lt_of_le (by have := World.block_lt_of_cell? _ _ hw572_1; first | rwa [add_block] at this | exact this) GW573.out))) _).trans (((cell_far (p := ⟨gb573, _, none⟩) (by first | exact Nat.ne_of_lt (Nat.lt_of_lt_of_le (by have := World.block_lt_of_cell? _ _ hw572_1; first | rwa [add_block] at this | exact this) GW573.out) | (rw [add_block]; exact Nat.ne_of_lt (Nat.lt_of_lt_of_le (by have := World.block_lt_of_cell? _ _ hw572_1; first | rwa [add_block] at this | exact this) GW573.out)) | (show (Addr.add _ _).block ≠ _; rw [add_block]; exact Nat.ne_of_lt (Nat.lt_of_lt_of_le (by have := World.block_lt_of_cell? _ _ hw572_1; first | rwa [add_block] at this | exact this) GW573.out)) | (dsimp only; exact Nat.ne_of_lt (Nat.lt_of_lt_of_le (by have := World.block_lt_of_cell? _ _ hw572_1; first | rwa [add_block] at this | exact this) GW573.out))) _).trans (((cell_far (p := ⟨gb573, _, none⟩) (by first | exact Nat.ne_of_lt (Nat.lt_of_lt_of_le (by have := World.block_lt_of_cell? _ _ hw572_1; first | rwa [add_block] at this | exact this) GW573.out) | (rw [add_block]; exact Nat.ne_of_lt (Nat.lt_of_lt_of_le (by have := World.block_lt_of_cell? _ _ hw572_1; first | rwa [add_block] at this | exact this) GW573.out)) | (show (Addr.add _ _).block ≠ _; rw [add_block]; exact Nat.ne_of_lt (Nat.lt_of_lt_of_le (by have := World.block_lt_of_cell? _ _ hw572_1; first | rwa [add_block] at this | exact this) GW573.out)) | (dsimp only; exact Nat.ne_of_lt (Nat.lt_of_lt_of_le (by have := World.block_lt_of_cell? _ _ hw572_1; first | rwa [add_block] at this | exact this) GW573.out))) _).trans (((cell_far (p := ⟨gb573, _, none⟩) (by first | exact Nat.ne_of_lt (Nat.lt_of_lt_of_le (by have := World.block_lt_of_cell? _ _ hw572_1; first | rwa [add_block] at this | exact this) GW573.out) | (rw [add_block]; exact Nat.ne_of_lt (Nat.lt_of_lt_of_le (by have := World.block_lt_of_cell? _ _ hw572_1; first | rwa [add_block] at this | exact this) GW573.out)) | (show (Addr.add _ _).block ≠ _; rw [add_block]; exact Nat.ne_of_lt (Nat.lt_of_lt_of_le (by have := World.block_lt_of_cell? _ _ hw572_1; first | rwa [add_block] at this | exact this) GW573.out)) | (dsimp only; exact Nat.ne_of_lt (Nat.lt_of_lt_of_le (by have := World.block_lt_of_cell? _ _ hw572_1; first | rwa [add_block] at this | exact this) GW573.out))) _).trans (hHeld.2.2.2.2.2.2.1)))))))))))))))), ((cell_far (p := ⟨gb573, _, none⟩) (by first | exact Nat.ne_of_lt (Nat.lt_of_lt_of_le (by have := World.block_lt_of_cell? _ _ hw572_2; first | rwa [add_block] at this | exact this) GW573.out) | (rw [add_block]; exact Nat.ne_of_lt (Nat.lt_of_lt_of_le (by have := World.block_lt_of_cell? _ _ hw572_2; first | rwa [add_block] at this | exact this) GW573.out)) | (show (Addr.add _ _).block ≠ _; rw [add_block]; exact Nat.ne_of_lt (Nat.lt_of_lt_of_le (by have := World.block_lt_of_cell? _ _ hw572_2; first | rwa [add_block] at this | exact this) GW573.out)) | (dsimp only; exact Nat.ne_of_lt (Nat.lt_of_lt_of_le (by have := World.block_lt_of_cell? _ _ hw572_2; first | rwa [add_block] at this | exact this) GW573.out))) _).trans (((cell_far (p := ⟨gb573, _, none⟩) (by first | exact Nat.ne_of_lt (Nat.lt_of_lt_of_le (by have := World.block_lt_of_cell? _ _ hw572_2; first | rwa [add_block] at this | exact this) GW573.out) | (rw [add_block]; exact Nat.ne_of_lt (Nat.lt_of_lt_of_le (by have := World.block_lt_of_cell? _ _ hw572_2; first | rwa [add_block] at this | exact this) GW573.out)) | (show (Addr.add _ _).block ≠ _; rw [add_block]; exact Nat.ne_of_lt (Nat.lt_of_lt_of_le (by have := World.block_lt_of_cell? _ _ hw572_2; first | rwa [add_block] at this | exact this) GW573.out)) | (dsimp only; exact Nat.ne_of_lt (Nat.lt_of_lt_of_le (by have := World.block_lt_of_cell? _ _ hw572_2; first | rwa [add_block] at this | exact this) GW573.out))) _).trans (((cell_far (p := ⟨gb573, _, none⟩) (by first | exact Nat.ne_of_lt (Nat.lt_of_lt_of_le (by have := World.block_lt_of_cell? _ _ hw572_2; first | rwa [add_block] at this | exact this) GW573.out) | (rw [add_block]; exact Nat.ne_of_lt (Nat.lt_of_lt_of_le (by have := World.block_lt_of_cell? _ _ hw572_2; first | rwa [add_block] at this | exact this) GW573.out)) | (show (Addr.add _ _).block ≠ _; rw [add_block]; exact Nat.ne_of_lt (Nat.lt_of_lt_of_le (by have := World.block_lt_of_cell? _ _ hw572_2; first | rwa [add_block] at this | exact this) GW573.out)) | (dsimp only; exact Nat.ne_of_lt (Nat.lt_of_lt_of_le (by have := World.block_lt_of_cell? _ _ hw572_2; first | rwa [add_block] at this | exact this) GW573.out))) _).trans (((cell_far (p := ⟨gb573, _, none⟩) (by first | exact Nat.ne_of_lt (Nat.lt_of_lt_of_le (by have := World.block_lt_of_cell? _ _ hw572_2; first | rwa [add_block] at this | exact this) GW573.out) | (rw [add_block]; exact Nat.ne_of_lt (Nat.lt_of_lt_of_le (by have := World.block_lt_of_cell? _ _ hw572_2; first | rwa [add_block] at this | exact this) GW573.out)) | (show (Addr.add _ _).block ≠ _; rw [add_block]; exact Nat.ne_of_lt (Nat.lt_of_lt_of_le (by have := World.block_lt_of_cell? _ _ hw572_2; first | rwa [add_block] at this | exact this) GW573.out)) | (dsimp only; exact Nat.ne_of_lt (Nat.lt_of_lt_of_le (by have := World.block_lt_of_cell? _ _ hw572_2; first | rwa [add_block] at this | exact this) GW573.out))) _).trans (((cell_far (p := ⟨gb573, _, none⟩) (by first | exact Nat.ne_of_lt (Nat.lt_of_lt_of_le (by have := World.block_lt_of_cell? _ _ hw572_2; first | rwa [add_block] at this | exact this) GW573.out) | (rw [add_block]; exact Nat.ne_of_lt (Nat.lt_of_lt_of_le (by have := World.block_lt_of_cell? _ _ hw572_2; first | rwa [add_block] at this | exact this) GW573.out)) | (show (Addr.add _ _).block ≠ _; rw [add_block]; exact Nat.ne_of_lt (Nat.lt_of_lt_of_le (by have := World.block_lt_of_cell? _ _ hw572_2; first | rwa [add_block] at this | exact this) GW573.out)) | (dsimp only; exact Nat.ne_of_lt (Nat.lt_of_lt_of_le (by have := World.block_lt_of_cell? _ _ hw572_2; first | rwa [add_block] at this | exact this) GW573.out))) _).trans (((cell_far (p := ⟨gb573, _, none⟩) (by first | exact Nat.ne_of_lt (Nat.lt_of_lt_of_le (by have := World.block_lt_of_cell? _ _ hw572_2; first | rwa [add_block] at this | exact this) GW573.out) | (rw [add_block]; exact Nat.ne_of_lt (Nat.lt_of_lt_of_le (by have := World.block_lt_of_cell? _ _ hw572_2; first | rwa [add_block] at this | exact this) GW573.out)) | (show (Addr.add _ _).block ≠ _; rw [add_block]; exact Nat.ne_of_lt (Nat.lt_of_lt_of_le (by have := World.block_lt_of_cell? _ _ hw572_2; first | rwa [add_block] at this | exact this) GW573.out)) | (dsimp only; exact Nat.ne_of_lt (Nat.lt_of_lt_of_le (by have := World.block_lt_of_cell? _ _ hw572_2; first | rwa [add_block] at this | exact this) GW573.out))) _).trans (((cell_far (p := ⟨gb573, _, none⟩) (by first | exact Nat.ne_of_lt (Nat.lt_of_lt_of_le (by have := World.block_lt_of_cell? _ _ hw572_2; first | rwa [add_block] at this | exact this) GW573.out) | (rw [add_block]; exact Nat.ne_of_lt (Nat.lt_of_lt_of_le (by have := World.block_lt_of_cell? _ _ hw572_2; first | rwa [add_block] at this | exact this) GW573.out)) | (show (Addr.add _ _).block ≠ _; rw [add_block]; exact Nat.ne_of_lt (Nat.lt_of_lt_of_le (by have := World.block_lt_of_cell? _ _ hw572_2; first | rwa [add_block] at this | exact this) GW573.out)) | (dsimp only; exact Nat.ne_of_lt (Nat.lt_of_lt_of_le (by have := World.block_lt_of_cell? _ _ hw572_2; first | rwa [add_block] at this | exact this) GW573.out))) _).trans (((cell_far (p := ⟨gb573, _, none⟩) (by first | exact Nat.ne_of_lt (Nat.lt_of_lt_of_le (by have := World.block_lt_of_cell? _ _ hw572_2; first | rwa [add_block] at this | exact this) GW573.out) | (rw [add_block]; exact Nat.ne_of_lt (Nat.lt_of_lt_of_le (by have := World.block_lt_of_cell? _ _ hw572_2; first | rwa [add_block] at this | exact this) GW573.out)) | (show (Addr.add _ _).block ≠ _; rw [add_block]; exact Nat.ne_of_lt (Nat.lt_of_lt_of_le (by have := World.block_lt_of_cell? _ _ hw572_2; first | rwa [add_block] at this | exact this) GW573.out)) | (dsimp only; exact Nat.ne_of_lt (Nat.lt_of_lt_of_le (by have := World.block_lt_of_cell? _ _ hw572_2; first | rwa [add_block] at this | exact this) GW573.out))) _).trans (hHeld.2.2.2.2.2.2.2.1)))))))))))))))), ((cell_far (p := ⟨gb573, _, none⟩) (by first | exact Nat.ne_of_lt (Nat.lt_of_lt_of_le (by have := World.block_lt_of_cell? _ _ hw572_3; first | rwa [add_block] at this | exact this) GW573.out) | (rw [add_block]; exact Nat.ne_of_lt (Nat.lt_of_lt_of_le (by have := World.block_lt_of_cell? _ _ hw572_3; first | rwa [add_block] at this | exact this) GW573.out)) | (show (Addr.add _ _).block ≠ _; rw [add_block]; exact Nat.ne_of_lt (Nat.lt_of_lt_of_le (by have := World.block_lt_of_cell? _ _ hw572_3; first | rwa [add_block] at this | exact this) GW573.out)) | (dsimp only; exact Nat.ne_of_lt (Nat.lt_of_lt_of_le (by have := World.block_lt_of_cell? _ _ hw572_3; first | rwa [add_block] at this | exact this) GW573.out))) _).trans (((cell_far (p := ⟨gb573, _, none⟩) (by first | exact Nat.ne_of_lt (Nat.lt_of_lt_of_le (by have := World.block_lt_of_cell? _ _ hw572_3; first | rwa [add_block] at this | exact this) GW573.out) | (rw [add_block]; exact Nat.ne_of_lt (Nat.lt_of_lt_of_le (by have := World.block_lt_of_cell? _ _ hw572_3; first | rwa [add_block] at this | exact this) GW573.out)) | (show (Addr.add _ _).block ≠ _; rw [add_block]; exact Nat.ne_of_lt (Nat.lt_of_lt_of_le (by have := World.block_lt_of_cell? _ _ hw572_3; first | rwa [add_block] at this | exact this) GW573.out)) | (dsimp only; exact Nat.ne_of_lt (Nat.lt_of_lt_of_le (by have := World.block_lt_of_cell? _ _ hw572_3; first | rwa [add_block] at this | exact this) GW573.out))) _).trans (((cell_far (p := ⟨gb573, _, none⟩) (by first | exact Nat.ne_of_lt (Nat.lt_of_lt_of_le (by have := World.block_lt_of_cell? _ _ hw572_3; first | rwa [add_block] at this | exact this) GW573.out) | (rw [add_block]; exact Nat.ne_of_lt (Nat.lt_of_lt_of_le (by have := World.block_lt_of_cell? _ _ hw572_3; first | rwa [add_block] at this | exact this) GW573.out)) | (show (Addr.add _ _).block ≠ _; rw [add_block]; exact Nat.ne_of_lt (Nat.lt_of_lt_of_le (by have := World.block_lt_of_cell? _ _ hw572_3; first | rwa [add_block] at this | exact this) GW573.out)) | (dsimp only; exact Nat.ne_of_lt (Nat.lt_of_lt_of_le (by have := World.block_lt_of_cell? _ _ hw572_3; first | rwa [add_block] at this | exact this) GW573.out))) _).trans (((cell_far (p := ⟨gb573, _, none⟩) (by first | exact Nat.ne_of_lt (Nat.lt_of_lt_of_le (by have := World.block_lt_of_cell? _ _ hw572_3; first | rwa [add_block] at this | exact this) GW573.out) | (rw [add_block]; exact Nat.ne_of_lt (Nat.lt_of_lt_of_le (by have := World.block_lt_of_cell? _ _ hw572_3; first | rwa [add_block] at this | exact this) GW573.out)) | (show (Addr.add _ _).block ≠ _; rw [add_block]; exact Nat.ne_of_lt (Nat.lt_of_lt_of_le (by have := World.block_lt_of_cell? _ _ hw572_3; first | rwa [add_block] at this | exact this) GW573.out)) | (dsimp only; exact Nat.ne_of_lt (Nat.lt_of_lt_of_le (by have := World.block_lt_of_cell? _ _ hw572_3; first | rwa [add_block] at this | exact this) GW573.out))) _).trans (((cell_far (p := ⟨gb573, _, none⟩) (by first | exact Nat.ne_of_lt (Nat.lt_of_lt_of_le (by have := World.block_lt_of_cell? _ _ hw572_3; first | rwa [add_block] at this | exact this) GW573.out) | (rw [add_block]; exact Nat.ne_of_lt (Nat.lt_of_lt_of_le (by have := World.block_lt_of_cell? _ _ hw572_3; first | rwa [add_block] at this | exact this) GW573.out)) | (show (Addr.add _ _).block ≠ _; rw [add_block]; exact Nat.ne_of_lt (Nat.lt_of_lt_of_le (by have := World.block_lt_of_cell? _ _ hw572_3; first | rwa [add_block] at this | exact this) GW573.out)) | (dsimp only; exact Nat.ne_of_lt (Nat.lt_of_lt_of_le (by have := World.block_lt_of_cell? _ _ hw572_3; first | rwa [add_block] at this | exact this) GW573.out))) _).trans (((cell_far (p := ⟨gb573, _, none⟩) (by first | exact Nat.ne_of_lt (Nat.lt_of_lt_of_le (by have := World.block_lt_of_cell? _ _ hw572_3; first | rwa [add_block] at this | exact this) GW573.out) | (rw [add_block]; exact Nat.ne_of_lt (Nat.lt_of_lt_of_le (by have := World.block_lt_of_cell? _ _ hw572_3; first | rwa [add_block] at this | exact this) GW573.out)) | (show (Addr.add _ _).block ≠ _; rw [add_block]; exact Nat.ne_of_lt (Nat.lt_of_lt_of_le (by have := World.block_lt_of_cell? _ _ hw572_3; first | rwa [add_block] at this | exact this) GW573.out)) | (dsimp only; exact Nat.ne_of_lt (Nat.lt_of_lt_of_le (by have := World.block_lt_of_cell? _ _ hw572_3; first | rwa [add_block] at this | exact this) GW573.out))) _).trans (((cell_far (p := ⟨gb573, _, none⟩) (by first | exact Nat.ne_of_lt (Nat.lt_of_lt_of_le (by have := World.block_lt_of_cell? _ _ hw572_3; first | rwa [add_block] at this | exact this) GW573.out) | (rw [add_block]; exact Nat.ne_of_lt (Nat.lt_of_lt_of_le (by have := World.block_lt_of_cell? _ _ hw572_3; first | rwa [add_block] at this | exact this) GW573.out)) | (show (Addr.add _ _).block ≠ _; rw [add_block]; exact Nat.ne_of_lt (Nat.lt_of_lt_of_le (by have := World.block_lt_of_cell? _ _ hw572_3; first | rwa [add_block] at this | exact this) GW573.out)) | (dsimp only; exact Nat.ne_of_lt (Nat.lt_of_lt_of_le (by have := World.block_lt_of_cell? _ _ hw572_3; first | rwa [add_block] at this | exact this) GW573.out))) _).trans (((cell_far (p := ⟨gb573, _, none⟩) (by first | exact Nat.ne_of_lt (Nat.lt_of_lt_of_le (by have := World.block_lt_of_cell? _ _ hw572_3; first | rwa [add_block] at this | exact this) GW573.out) | (rw [add_block]; exact Nat.ne_of_lt (Nat.lt_of_lt_of_le (by have := World.block_lt_of_cell? _ _ hw572_3; first | rwa [add_block] at this | exact this) GW573.out)) | (show (Addr.add _ _).block ≠ _; rw [add_block]; exact Nat.ne_of_lt (Nat.lt_of_lt_of_le (by have := World.block_lt_of_cell? _ _ hw572_3; first | rwa [add_block] at this | exact this) GW573.out)) | (dsimp only; exact Nat.ne_of_lt (Nat.lt_of_lt_of_le (by have := World.block_lt_of_cell? _ _ hw572_3; first | rwa [add_block] at this | exact this) GW573.out))) _).trans (hHeld.2.2.2.2.2.2.2.2.1)))))))))))))))), ((cell_far (p := ⟨gb573, _, none⟩) (by first | exact Nat.ne_of_lt (Nat.lt_of_lt_of_le (by have := World.block_lt_of_cell? _ _ hw572_4; first | rwa [add_block] at this | exact this) GW573.out) | (rw [add_block]; exact Nat.ne_of_lt (Nat.lt_of_lt_of_le (by have := World.block_lt_of_cell? _ _ hw572_4; first | rwa [add_block] at this | exact this) GW573.out)) | (show (Addr.add _ _).block ≠ _; rw [add_block]; exact Nat.ne_of_lt (Nat.lt_of_lt_of_le (by have := World.block_lt_of_cell? _ _ hw572_4; first | rwa [add_block] at this | exact this) GW573.out)) | (dsimp only; exact Nat.ne_of_lt (Nat.lt_of_lt_of_le (by have := World.block_lt_of_cell? _ _ hw572_4; first | rwa [add_block] at this | exact this) GW573.out))) _).trans (((cell_far (p := ⟨gb573, _, none⟩) (by first | exact Nat.ne_of_lt (Nat.lt_of_lt_of_le (by have := World.block_lt_of_cell? _ _ hw572_4; first | rwa [add_block] at this | exact this) GW573.out) | (rw [add_block]; exact Nat.ne_of_lt (Nat.lt_of_lt_of_le (by have := World.block_lt_of_cell? _ _ hw572_4; first | rwa [add_block] at this | exact this) GW573.out)) | (show (Addr.add _ _).block ≠ _; rw [add_block]; exact Nat.ne_of_lt (Nat.lt_of_lt_of_le (by have := World.block_lt_of_cell? _ _ hw572_4; first | rwa [add_block] at this | exact this) GW573.out)) | (dsimp only; exact Nat.ne_of_lt (Nat.lt_of_lt_of_le (by have := World.block_lt_of_cell? _ _ hw572_4; first | rwa [add_block] at this | exact this) GW573.out))) _).trans (((cell_far (p := ⟨gb573, _, none⟩) (by first | exact Nat.ne_of_lt (Nat.lt_of_lt_of_le (by have := World.block_lt_of_cell? _ _ hw572_4; first | rwa [add_block] at this | exact this) GW573.out) | (rw [add_block]; exact Nat.ne_of_lt (Nat.lt_of_lt_of_le (by have := World.block_lt_of_cell? _ _ hw572_4; first | rwa [add_block] at this | exact this) GW573.out)) | (show (Addr.add _ _).block ≠ _; rw [add_block]; exact Nat.ne_of_lt (Nat.lt_of_lt_of_le (by have := World.block_lt_of_cell? _ _ hw572_4; first | rwa [add_block] at this | exact this) GW573.out)) | (dsimp only; exact Nat.ne_of_lt (Nat.lt_of_lt_of_le (by have := World.block_lt_of_cell? _ _ hw572_4; first | rwa [add_block] at this | exact this) GW573.out))) _).trans (((cell_far (p := ⟨gb573, _, none⟩) (by first | exact Nat.ne_of_lt (Nat.lt_of_lt_of_le (by have := World.block_lt_of_cell? _ _ hw572_4; first | rwa [add_block] at this | exact this) GW573.out) | (rw [add_block]; exact Nat.ne_of_lt (Nat.lt_of_lt_of_le (by have := World.block_lt_of_cell? _ _ hw572_4; first | rwa [add_block] at this | exact this) GW573.out)) | (show (Addr.add _ _).block ≠ _; rw [add_block]; exact Nat.ne_of_lt (Nat.lt_of_lt_of_le (by have := World.block_lt_of_cell? _ _ hw572_4; first | rwa [add_block] at this | exact this) GW573.out)) | (dsimp only; exact Nat.ne_of_lt (Nat.lt_of_lt_of_le (by have := World.block_lt_of_cell? _ _ hw572_4; first | rwa [add_block] at this | exact this) GW573.out))) _).trans (((cell_far (p := ⟨gb573, _, none⟩) (by first | exact Nat.ne_of_lt (Nat.lt_of_lt_of_le (by have := World.block_lt_of_cell? _ _ hw572_4; first | rwa [add_block] at this | exact this) GW573.out) | (rw [add_block]; exact Nat.ne_of_lt (Nat.lt_of_lt_of_le (by have := World.block_lt_of_cell? _ _ hw572_4; first | rwa [add_block] at this | exact this) GW573.out)) | (show (Addr.add _ _).block ≠ _; rw [add_block]; exact Nat.ne_of_lt (Nat.lt_of_lt_of_le (by have := World.block_lt_of_cell? _ _ hw572_4; first | rwa [add_block] at this | exact this) GW573.out)) | (dsimp only; exact Nat.ne_of_lt (Nat.lt_of_lt_of_le (by have := World.block_lt_of_cell? _ _ hw572_4; first | rwa [add_block] at this | exact this) GW573.out))) _).trans (((cell_far (p := ⟨gb573, _, none⟩) (by first | exact Nat.ne_of_lt (Nat.lt_of_lt_of_le (by have := World.block_lt_of_cell? _ _ hw572_4; first | rwa [add_block] at this | exact this) GW573.out) | (rw [add_block]; exact Nat.ne_of_lt (Nat.lt_of_lt_of_le (by have := World.block_lt_of_cell? _ _ hw572_4; first | rwa [add_block] at this | exact this) GW573.out)) | (show (Addr.add _ _).block ≠ _; rw [add_block]; exact Nat.ne_of_lt (Nat.lt_of_lt_of_le (by have := World.block_lt_of_cell? _ _ hw572_4; first | rwa [add_block] at this | exact this) GW573.out)) | (dsimp only; exact Nat.ne_of_lt (Nat.lt_of_lt_of_le (by have := World.block_lt_of_cell? _ _ hw572_4; first | rwa [add_block] at this | exact this) GW573.out))) _).trans (((cell_far (p := ⟨gb573, _, none⟩) (by first | exact Nat.ne_of_lt (Nat.lt_of_lt_of_le (by have := World.block_lt_of_cell? _ _ hw572_4; first | rwa [add_block] at this | exact this) GW573.out) | (rw [add_block]; exact Nat.ne_of_lt (Nat.lt_of_lt_of_le (by have := World.block_lt_of_cell? _ _ hw572_4; first | rwa [add_block] at this | exact this) GW573.out)) | (show (Addr.add _ _).block ≠ _; rw [add_block]; exact Nat.ne_of_lt (Nat.lt_of_lt_of_le (by have := World.block_lt_of_cell? _ _ hw572_4; first | rwa [add_block] at this | exact this) GW573.out)) | (dsimp only; exact Nat.ne_of_lt (Nat.lt_of_lt_of_le (by have := World.block_lt_of_cell? _ _ hw572_4; first | rwa [add_block] at this | exact this) GW573.out))) _).trans (((cell_far (p := ⟨gb573, _, none⟩) (by first | exact Nat.ne_of_lt (Nat.lt_of_lt_of_le (by have := World.block_lt_of_cell? _ _ hw572_4; first | rwa [add_block] at this | exact this) GW573.out) | (rw [add_block]; exact Nat.ne_of_lt (Nat.lt_of_lt_of_le (by have := World.block_lt_of_cell? _ _ hw572_4; first | rwa [add_block] at this | exact this) GW573.out)) | (show (Addr.add _ _).block ≠ _; rw [add_block]; exact Nat.ne_of_lt (Nat.lt_of_lt_of_le (by have := World.block_lt_of_cell? _ _ hw572_4; first | rwa [add_block] at this | exact this) GW573.out)) | (dsimp only; exact Nat.ne_of_lt (Nat.lt_of_lt_of_le (by have := World.block_lt_of_cell? _ _ hw572_4; first | rwa [add_block] at this | exact this) GW573.out))) _).trans (hHeld.2.2.2.2.2.2.2.2.2.1)))))))))))))))), ((cell_far (p := ⟨gb573, _, none⟩) (by first | exact Nat.ne_of_lt (Nat.lt_of_lt_of_le (by have := World.block_lt_of_cell? _ _ hw572_5; first | rwa [add_block] at this | exact this) GW573.out) | (rw [add_block]; exact Nat.ne_of_lt (Nat.lt_of_lt_of_le (by have := World.block_lt_of_cell? _ _ hw572_5; first | rwa [add_block] at this | exact this) GW573.out)) | (show (Addr.add _ _).block ≠ _; rw [add_block]; exact Nat.ne_of_lt (Nat.lt_of_lt_of_le (by have := World.block_lt_of_cell? _ _ hw572_5; first | rwa [add_block] at this | exact this) GW573.out)) | (dsimp only; exact Nat.ne_of_lt (Nat.lt_of_lt_of_le (by have := World.block_lt_of_cell? _ _ hw572_5; first | rwa [add_block] at this | exact this) GW573.out))) _).trans (((cell_far (p := ⟨gb573, _, none⟩) (by first | exact Nat.ne_of_lt (Nat.lt_of_lt_of_le (by have := World.block_lt_of_cell? _ _ hw572_5; first | rwa [add_block] at this | exact this) GW573.out) | (rw [add_block]; exact Nat.ne_of_lt (Nat.lt_of_lt_of_le (by have := World.block_lt_of_cell? _ _ hw572_5; first | rwa [add_block] at this | exact this) GW573.out)) | (show (Addr.add _ _).block ≠ _; rw [add_block]; exact Nat.ne_of_lt (Nat.lt_of_lt_of_le (by have := World.block_lt_of_cell? _ _ hw572_5; first | rwa [add_block] at this | exact this) GW573.out)) | (dsimp only; exact Nat.ne_of_lt (Nat.lt_of_lt_of_le (by have := World.block_lt_of_cell? _ _ hw572_5; first | rwa [add_block] at this | exact this) GW573.out))) _).trans (((cell_far (p := ⟨gb573, _, none⟩) (by first | exact Nat.ne_of_lt (Nat.lt_of_lt_of_le (by have := World.block_lt_of_cell? _ _ hw572_5; first | rwa [add_block] at this | exact this) GW573.out) | (rw [add_block]; exact Nat.ne_of_lt (Nat.lt_of_lt_of_le (by have := World.block_lt_of_cell? _ _ hw572_5; first | rwa [add_block] at this | exact this) GW573.out)) | (show (Addr.add _ _).block ≠ _; rw [add_block]; exact Nat.ne_of_lt (Nat.lt_of_lt_of_le (by have := World.block_lt_of_cell? _ _ hw572_5; first | rwa [add_block] at this | exact this) GW573.out)) | (dsimp only; exact Nat.ne_of_lt (Nat.lt_of_lt_of_le (by have := World.block_lt_of_cell? _ _ hw572_5; first | rwa [add_block] at this | exact this) GW573.out))) _).trans (((cell_far (p := ⟨gb573, _, none⟩) (by first | exact Nat.ne_of_lt (Nat.lt_of_lt_of_le (by have := World.block_lt_of_cell? _ _ hw572_5; first | rwa [add_block] at this | exact this) GW573.out) | (rw [add_block]; exact Nat.ne_of_lt (Nat.lt_of_lt_of_le (by have := World.block_lt_of_cell? _ _ hw572_5; first | rwa [add_block] at this | exact this) GW573.out)) | (show (Addr.add _ _).block ≠ _; rw [add_block]; exact Nat.ne_of_lt (Nat.lt_of_lt_of_le (by have := World.block_lt_of_cell? _ _ hw572_5; first | rwa [add_block] at this | exact this) GW573.out)) | (dsimp only; exact Nat.ne_of_lt (Nat.lt_of_lt_of_le (by have := World.block_lt_of_cell? _ _ hw572_5; first | rwa [add_block] at this | exact this) GW573.out))) _).trans (((cell_far (p := ⟨gb573, _, none⟩) (by first | exact Nat.ne_of_lt (Nat.lt_of_lt_of_le (by have := World.block_lt_of_cell? _ _ hw572_5; first | rwa [add_block] at this | exact this) GW573.out) | (rw [add_block]; exact Nat.ne_of_lt (Nat.lt_of_lt_of_le (by have := World.block_lt_of_cell? _ _ hw572_5; first | rwa [add_block] at this | exact this) GW573.out)) | (show (Addr.add _ _).block ≠ _; rw [add_block]; exact Nat.ne_of_lt (Nat.lt_of_lt_of_le (by have := World.block_lt_of_cell? _ _ hw572_5; first | rwa [add_block] at this | exact this) GW573.out)) | (dsimp only; exact Nat.ne_of_lt (Nat.lt_of_lt_of_le (by have := World.block_lt_of_cell? _ _ hw572_5; first | rwa [add_block] at this | exact this) GW573.out))) _).trans (((cell_far (p := ⟨gb573, _, none⟩) (by first | exact Nat.ne_of_lt (Nat.lt_of_lt_of_le (by have := World.block_lt_of_cell? _ _ hw572_5; first | rwa [add_block] at this | exact this) GW573.out) | (rw [add_block]; exact Nat.ne_of_lt (Nat.lt_of_lt_of_le (by have := World.block_lt_of_cell? _ _ hw572_5; first | rwa [add_block] at this | exact this) GW573.out)) | (show (Addr.add _ _).block ≠ _; rw [add_block]; exact Nat.ne_of_lt (Nat.lt_of_lt_of_le (by have := World.block_lt_of_cell? _ _ hw572_5; first | rwa [add_block] at this | exact this) GW573.out)) | (dsimp only; exact Nat.ne_of_lt (Nat.lt_of_lt_of_le (by have := World.block_lt_of_cell? _ _ hw572_5; first | rwa [add_block] at this | exact this) GW573.out))) _).trans (((cell_far (p := ⟨gb573, _, none⟩) (by first | exact Nat.ne_of_lt (Nat.lt_of_lt_of_le (by have := World.block_lt_of_cell? _ _ hw572_5; first | rwa [add_block] at this | exact this) GW573.out) | (rw [add_block]; exact Nat.ne_of_lt (Nat.lt_of_lt_of_le (by have := World.block_lt_of_cell? _ _ hw572_5; first | rwa [add_block] at this | exact this) GW573.out)) | (show (Addr.add _ _).block ≠ _; rw [add_block]; exact Nat.ne_of_lt (Nat.lt_of_lt_of_le (by have := World.block_lt_of_cell? _ _ hw572_5; first | rwa [add_block] at this | exact this) GW573.out)) | (dsimp only; exact Nat.ne_of_lt (Nat.lt_of_lt_of_le (by have := World.block_lt_of_cell? _ _ hw572_5; first | rwa [add_block] at this | exact this) GW573.out))) _).trans (((cell_far (p := ⟨gb573, _, none⟩) (by first | exact Nat.ne_of_lt (Nat.lt_of_lt_of_le (by have := World.block_lt_of_cell? _ _ hw572_5; first | rwa [add_block] at this | exact this) GW573.out) | (rw [add_block]; exact Nat.ne_of_lt (Nat.lt_of_lt_of_le (by have := World.block_lt_of_cell? _ _ hw572_5; first | rwa [add_block] at this | exact this) GW573.out)) | (show (Addr.add _ _).block ≠ _; rw [add_block]; exact Nat.ne_of_lt (Nat.lt_of_lt_of_le (by have := World.block_lt_of_cell? _ _ hw572_5; first | rwa [add_block] at this | exact this) GW573.out)) | (dsimp only; exact Nat.ne_of_lt (Nat.lt_of_lt_of_le (by have := World.block_lt_of_cell? _ _ hw572_5; first | rwa [add_block] at this | exact this) GW573.out))) _).trans (hHeld.2.2.2.2.2.2.2.2.2.2.1)))))))))))))))), ((cell_far (p := ⟨gb573, _, none⟩) (by first | exact Nat.ne_of_lt (Nat.lt_of_lt_of_le (by have := World.block_lt_of_cell? _ _ hw572_6; first | rwa [add_block] at this | exact this) GW573.out) | (rw [add_block]; exact Nat.ne_of_lt (Nat.lt_of_lt_of_le (by have := World.block_lt_of_cell? _ _ hw572_6; first | rwa [add_block] at this | exact this) GW573.out)) | (show (Addr.add _ _).block ≠ _; rw [add_block]; exact Nat.ne_of_lt (Nat.lt_of_lt_of_le (by have := World.block_lt_of_cell? _ _ hw572_6; first | rwa [add_block] at this | exact this) GW573.out)) | (dsimp only; exact Nat.ne_of_lt (Nat.lt_of_lt_of_le (by have := World.block_lt_of_cell? _ _ hw572_6; first | rwa [add_block] at this | exact this) GW573.out))) _).trans (((cell_far (p := ⟨gb573, _, none⟩) (by first | exact Nat.ne_of_lt (Nat.lt_of_lt_of_le (by have := World.block_lt_of_cell? _ _ hw572_6; first | rwa [add_block] at this | exact this) GW573.out) | (rw [add_block]; exact Nat.ne_of_lt (Nat.lt_of_lt_of_le (by have := World.block_lt_of_cell? _ _ hw572_6; first | rwa [add_block] at this | exact this) GW573.out)) | (show (Addr.add _ _).block ≠ _; rw [add_block]; exact Nat.ne_of_lt (Nat.lt_of_lt_of_le (by have := World.block_lt_of_cell? _ _ hw572_6; first | rwa [add_block] at this | exact this) GW573.out)) | (dsimp only; exact Nat.ne_of_lt (Nat.lt_of_lt_of_le (by have := World.block_lt_of_cell? _ _ hw572_6; first | rwa [add_block] at this | exact this) GW573.out))) _).trans (((cell_far (p := ⟨gb573, _, none⟩) (by first | exact Nat.ne_of_lt (Nat.lt_of_lt_of_le (by have := World.block_lt_of_cell? _ _ hw572_6; first | rwa [add_block] at this | exact this) GW573.out) | (rw [add_block]; exact Nat.ne_of_lt (Nat.lt_of_lt_of_le (by have := World.block_lt_of_cell? _ _ hw572_6; first | rwa [add_block] at this | exact this) GW573.out)) | (show (Addr.add _ _).block ≠ _; rw [add_block]; exact Nat.ne_of_lt (Nat.lt_of_lt_of_le (by have := World.block_lt_of_cell? _ _ hw572_6; first | rwa [add_block] at this | exact this) GW573.out)) | (dsimp only; exact Nat.ne_of_lt (Nat.lt_of_lt_of_le (by have := World.block_lt_of_cell? _ _ hw572_6; first | rwa [add_block] at this | exact this) GW573.out))) _).trans (((cell_far (p := ⟨gb573, _, none⟩) (by first | exact Nat.ne_of_lt (Nat.lt_of_lt_of_le (by have := World.block_lt_of_cell? _ _ hw572_6; first | rwa [add_block] at this | exact this) GW573.out) | (rw [add_block]; exact Nat.ne_of_lt (Nat.lt_of_lt_of_le (by have := World.block_lt_of_cell? _ _ hw572_6; first | rwa [add_block] at this | exact this) GW573.out)) | (show (Addr.add _ _).block ≠ _; rw [add_block]; exact Nat.ne_of_lt (Nat.lt_of_lt_of_le (by have := World.block_lt_of_cell? _ _ hw572_6; first | rwa [add_block] at this | exact this) GW573.out)) | (dsimp only; exact Nat.ne_of_lt (Nat.lt_of_lt_of_le (by have := World.block_lt_of_cell? _ _ hw572_6; first | rwa [add_block] at this | exact this) GW573.out))) _).trans (((cell_far (p := ⟨gb573, _, none⟩) (by first | exact Nat.ne_of_lt (Nat.lt_of_lt_of_le (by have := World.block_lt_of_cell? _ _ hw572_6; first | rwa [add_block] at this | exact this) GW573.out) | (rw [add_block]; exact Nat.ne_of_lt (Nat.lt_of_lt_of_le (by have := World.block_lt_of_cell? _ _ hw572_6; first | rwa [add_block] at this | exact this) GW573.out)) | (show (Addr.add _ _).block ≠ _; rw [add_block]; exact Nat.ne_of_lt (Nat.lt_of_lt_of_le (by have := World.block_lt_of_cell? _ _ hw572_6; first | rwa [add_block] at this | exact this) GW573.out)) | (dsimp only; exact Nat.ne_of_lt (Nat.lt_of_lt_of_le (by have := World.block_lt_of_cell? _ _ hw572_6; first | rwa [add_block] at this | exact this) GW573.out))) _).trans (((cell_far (p := ⟨gb573, _, none⟩) (by first | exact Nat.ne_of_lt (Nat.lt_of_lt_of_le (by have := World.block_lt_of_cell? _ _ hw572_6; first | rwa [add_block] at this | exact this) GW573.out) | (rw [add_block]; exact Nat.ne_of_lt (Nat.lt_of_lt_of_le (by have := World.block_lt_of_cell? _ _ hw572_6; first | rwa [add_block] at this | exact this) GW573.out)) | (show (Addr.add _ _).block ≠ _; rw [add_block]; exact Nat.ne_of_lt (Nat.lt_of_lt_of_le (by have := World.block_lt_of_cell? _ _ hw572_6; first | rwa [add_block] at this | exact this) GW573.out)) | (dsimp only; exact Nat.ne_of_lt (Nat.lt_of_lt_of_le (by have := World.block_lt_of_cell? _ _ hw572_6; first | rwa [add_block] at this | exact this) GW573.out))) _).trans (((cell_far (p := ⟨gb573, _, none⟩) (by first | exact Nat.ne_of_lt (Nat.lt_of_lt_of_le (by have := World.block_lt_of_cell? _ _ hw572_6; first | rwa [add_block] at this | exact this) GW573.out) | (rw [add_block]; exact Nat.ne_of_lt (Nat.lt_of_lt_of_le (by have := World.block_lt_of_cell? _ _ hw572_6; first | rwa [add_block] at this | exact this) GW573.out)) | (show (Addr.add _ _).block ≠ _; rw [add_block]; exact Nat.ne_of_lt (Nat.lt_of_lt_of_le (by have := World.block_lt_of_cell? _ _ hw572_6; first | rwa [add_block] at this | exact this) GW573.out)) | (dsimp only; exact Nat.ne_of_lt (Nat.lt_of_lt_of_le (by have := World.block_lt_of_cell? _ _ hw572_6; first | rwa [add_block] at this | exact this) GW573.out))) _).trans (((cell_far (p := ⟨gb573, _, none⟩) (by first | exact Nat.ne_of_lt (Nat.lt_of_lt_of_le (by have := World.block_lt_of_cell? _ _ hw572_6; first | rwa [add_block] at this | exact this) GW573.out) | (rw [add_block]; exact Nat.ne_of_lt (Nat.lt_of_lt_of_le (by have := World.block_lt_of_cell? _ _ hw572_6; first | rwa [add_block] at this | exact this) GW573.out)) | (show (Addr.add _ _).block ≠ _; rw [add_block]; exact Nat.ne_of_lt (Nat.lt_of_lt_of_le (by have := World.block_lt_of_cell? _ _ hw572_6; first | rwa [add_block] at this | exact this) GW573.out)) | (dsimp only; exact Nat.ne_of_lt (Nat.lt_of_lt_of_le (by have := World.block_lt_of_cell? _ _ hw572_6; first | rwa [add_block] at this | exact this) GW573.out))) _).trans (hHeld.2.2.2.2.2.2.2.2.2.2.2.1)))))))))))))))), ((cell_far (p := ⟨gb573, _, none⟩) (by first | exact Nat.ne_of_lt (Nat.lt_of_lt_of_le (by have := World.block_lt_of_cell? _ _ hw572_7; first | rwa [add_block] at this | exact this) GW573.out) | (rw [add_block]; exact Nat.ne_of_lt (Nat.lt_of_lt_of_le (by have := World.block_lt_of_cell? _ _ hw572_7; first | rwa [add_block] at this | exact this) GW573.out)) | (show (Addr.add _ _).block ≠ _; rw [add_block]; exact Nat.ne_of_lt (Nat.lt_of_lt_of_le (by have := World.block_lt_of_cell? _ _ hw572_7; first | rwa [add_block] at this | exact this) GW573.out)) | (dsimp only; exact Nat.ne_of_lt (Nat.lt_of_lt_of_le (by have := World.block_lt_of_cell? _ _ hw572_7; first | rwa [add_block] at this | exact this) GW573.out))) _).trans (((cell_far (p := ⟨gb573, _, none⟩) (by first | exact Nat.ne_of_lt (Nat.lt_of_lt_of_le (by have := World.block_lt_of_cell? _ _ hw572_7; first | rwa [add_block] at this | exact this) GW573.out) | (rw [add_block]; exact Nat.ne_of_lt (Nat.lt_of_lt_of_le (by have := World.block_lt_of_cell? _ _ hw572_7; first | rwa [add_block] at this | exact this) GW573.out)) | (show (Addr.add _ _).block ≠ _; rw [add_block]; exact Nat.ne_of_lt (Nat.lt_of_lt_of_le (by have := World.block_lt_of_cell? _ _ hw572_7; first | rwa [add_block] at this | exact this) GW573.out)) | (dsimp only; exact Nat.ne_of_lt (Nat.lt_of_lt_of_le (by have := World.block_lt_of_cell? _ _ hw572_7; first | rwa [add_block] at this | exact this) GW573.out))) _).trans (((cell_far (p := ⟨gb573, _, none⟩) (by first | exact Nat.ne_of_lt (Nat.lt_of_lt_of_le (by have := World.block_lt_of_cell? _ _ hw572_7; first | rwa [add_block] at this | exact this) GW573.out) | (rw [add_block]; exact Nat.ne_of_lt (Nat.lt_of_lt_of_le (by have := World.block_lt_of_cell? _ _ hw572_7; first | rwa [add_block] at this | exact this) GW573.out)) | (show (Addr.add _ _).block ≠ _; rw [add_block]; exact Nat.ne_of_lt (Nat.lt_of_lt_of_le (by have := World.block_lt_of_cell? _ _ hw572_7; first | rwa [add_block] at this | exact this) GW573.out)) | (dsimp only; exact Nat.ne_of_lt (Nat.lt_of_lt_of_le (by have := World.block_lt_of_cell? _ _ hw572_7; first | rwa [add_block] at this | exact this) GW573.out))) _).trans (((cell_far (p := ⟨gb573, _, none⟩) (by first | exact Nat.ne_of_lt (Nat.lt_of_lt_of_le (by have := World.block_lt_of_cell? _ _ hw572_7; first | rwa [add_block] at this | exact this) GW573.out) | (rw [add_block]; exact Nat.ne_of_lt (Nat.lt_of_lt_of_le (by have := World.block_lt_of_cell? _ _ hw572_7; first | rwa [add_block] at this | exact this) GW573.out)) | (show (Addr.add _ _).block ≠ _; rw [add_block]; exact Nat.ne_of_lt (Nat.lt_of_lt_of_le (by have := World.block_lt_of_cell? _ _ hw572_7; first | rwa [add_block] at this | exact this) GW573.out)) | (dsimp only; exact Nat.ne_of_lt (Nat.lt_of_lt_of_le (by have := World.block_lt_of_cell? _ _ hw572_7; first | rwa [add_block] at this | exact this) GW573.out))) _).trans (((cell_far (p := ⟨gb573, _, none⟩) (by first | exact Nat.ne_of_lt (Nat.lt_of_lt_of_le (by have := World.block_lt_of_cell? _ _ hw572_7; first | rwa [add_block] at this | exact this) GW573.out) | (rw [add_block]; exact Nat.ne_of_lt (Nat.lt_of_lt_of_le (by have := World.block_lt_of_cell? _ _ hw572_7; first | rwa [add_block] at this | exact this) GW573.out)) | (show (Addr.add _ _).block ≠ _; rw [add_block]; exact Nat.ne_of_lt (Nat.lt_of_lt_of_le (by have := World.block_lt_of_cell? _ _ hw572_7; first | rwa [add_block] at this | exact this) GW573.out)) | (dsimp only; exact Nat.ne_of_lt (Nat.lt_of_lt_of_le (by have := World.block_lt_of_cell? _ _ hw572_7; first | rwa [add_block] at this | exact this) GW573.out))) _).trans (((cell_far (p := ⟨gb573, _, none⟩) (by first | exact Nat.ne_of_lt (Nat.lt_of_lt_of_le (by have := World.block_lt_of_cell? _ _ hw572_7; first | rwa [add_block] at this | exact this) GW573.out) | (rw [add_block]; exact Nat.ne_of_lt (Nat.lt_of_lt_of_le (by have := World.block_lt_of_cell? _ _ hw572_7; first | rwa [add_block] at this | exact this) GW573.out)) | (show (Addr.add _ _).block ≠ _; rw [add_block]; exact Nat.ne_of_lt (Nat.lt_of_lt_of_le (by have := World.block_lt_of_cell? _ _ hw572_7; first | rwa [add_block] at this | exact this) GW573.out)) | (dsimp only; exact Nat.ne_of_lt (Nat.lt_of_lt_of_le (by have := World.block_lt_of_cell? _ _ hw572_7; first | rwa [add_block] at this | exact this) GW573.out))) _).trans (((cell_far (p := ⟨gb573, _, none⟩) (by first | exact Nat.ne_of_lt (Nat.lt_of_lt_of_le (by have := World.block_lt_of_cell? _ _ hw572_7; first | rwa [add_block] at this | exact this) GW573.out) | (rw [add_block]; exact Nat.ne_of_lt (Nat.lt_of_lt_of_le (by have := World.block_lt_of_cell? _ _ hw572_7; first | rwa [add_block] at this | exact this) GW573.out)) | (show (Addr.add _ _).block ≠ _; rw [add_block]; exact Nat.ne_of_lt (Nat.lt_of_lt_of_le (by have := World.block_lt_of_cell? _ _ hw572_7; first | rwa [add_block] at this | exact this) GW573.out)) | (dsimp only; exact Nat.ne_of_lt (Nat.lt_of_lt_of_le (by have := World.block_lt_of_cell? _ _ hw572_7; first | rwa [add_block] at this | exact this) GW573.out))) _).trans (((cell_far (p := ⟨gb573, _, none⟩) (by first | exact Nat.ne_of_lt (Nat.lt_of_lt_of_le (by have := World.block_lt_of_cell? _ _ hw572_7; first | rwa [add_block] at this | exact this) GW573.out) | (rw [add_block]; exact Nat.ne_of_lt (Nat.lt_of_lt_of_le (by have := World.block_lt_of_cell? _ _ hw572_7; first | rwa [add_block] at this | exact this) GW573.out)) | (show (Addr.add _ _).block ≠ _; rw [add_block]; exact Nat.ne_of_lt (Nat.lt_of_lt_of_le (by have := World.block_lt_of_cell? _ _ hw572_7; first | rwa [add_block] at this | exact this) GW573.out)) | (dsimp only; exact Nat.ne_of_lt (Nat.lt_of_lt_of_le (by have := World.block_lt_of_cell? _ _ hw572_7; first | rwa [add_block] at this | exact this) GW573.out))) _).trans (hHeld.2.2.2.2.2.2.2.2.2.2.2.2))))))))))))))))⟩ (fun hHeld => ?_)
                 clear hK K
                 refine done_ (done_of HT_.out (by kernel_rfl)) ?_
                 try go_wp2
                 go_loopg [7, 10] k1 (fun kq v7 v10 w' => ∃ (x7_2 : List (S125)) (x10_2 : Int), v10 = .int .i64 x10_2 ∧ Aside0 (spec_Needed.l1 kq l0 y559 x7_2 x8_1 x10_2 ((rd_T130 ((rd_T68 l0 ((rd_T125 x7_1 x8_1).f0)).f0) ((rd_T125 x7_1 x8_1).f1)).f0) ((rd_T130 ((rd_T68 l0 ((rd_T125 x7_1 x8_1).f0)).f0) ((rd_T125 x7_1 x8_1).f1)).f1) ((rd_T130 ((rd_T68 l0 ((rd_T125 x7_1 x8_1).f0)).f0) ((rd_T125 x7_1 x8_1).f1)).f2) ((rd_T130 ((rd_T68 l0 ((rd_T125 x7_1 x8_1).f0)).f0) ((rd_T125 x7_1 x8_1).f1)).f3) ((rd_T130 ((rd_T68 l0 ((rd_T125 x7_1 x8_1).f0)).f0) ((rd_T125 x7_1 x8_1).f1)).f4) ((rd_T130 ((rd_T68 l0 ((rd_T125 x7_1 x8_1).f0)).f0) ((rd_T125 x7_1 x8_1).f1)).f5) ((rd_T130 ((rd_T68 l0 ((rd_T125 x7_1 x8_1).f0)).f0) ((rd_T125 x7_1 x8_1).f1)).f6) ((rd_T130 ((rd_T68 l0 ((rd_T125 x7_1 x8_1).f0)).f0) ((rd_T125 x7_1 x8_1).f1)).f7) = some r) ∧ Aside0 (kq ≤ k1) ∧ Aside0 (Kd.R k125 125 w' w.heap.size (fun k_ => some k_ ≠ (v7 : Value).ownBlock ∧ k_ ≠ gb564) v560 y559) ∧ Aside0 (Kd.R k125 125 w' w.heap.size (fun k_ => some k_ ≠ (v560 : Value).ownBlock ∧ k_ ≠ gb564) v7 x7_2) ∧ Aside0 (w'.heap[gb564]? = some (.cells #[.int .i64 t562, .int .i64 t563] 125 (0, 0))) ∧ Aside0 (w'.heap[gb573]? = some (.cells #[.string ((rd_T130 ((rd_T68 l0 ((rd_T125 x7_1 x8_1).f0)).f0) ((rd_T125 x7_1 x8_1).f1)).f0), .int .i64 ((rd_T130 ((rd_T68 l0 ((rd_T125 x7_1 x8_1).f0)).f0) ((rd_T125 x7_1 x8_1).f1)).f1), .int .i64 ((rd_T130 ((rd_T68 l0 ((rd_T125 x7_1 x8_1).f0)).f0) ((rd_T125 x7_1 x8_1).f1)).f2), .int .i64 ((rd_T130 ((rd_T68 l0 ((rd_T125 x7_1 x8_1).f0)).f0) ((rd_T125 x7_1 x8_1).f1)).f3), (.slice A572_4 ((rd_T130 ((rd_T68 l0 ((rd_T125 x7_1 x8_1).f0)).f0) ((rd_T125 x7_1 x8_1).f1)).f4).length c572_4), .int .i64 ((rd_T130 ((rd_T68 l0 ((rd_T125 x7_1 x8_1).f0)).f0) ((rd_T125 x7_1 x8_1).f1)).f5), (.slice A572_6 ((rd_T130 ((rd_T68 l0 ((rd_T125 x7_1 x8_1).f0)).f0) ((rd_T125 x7_1 x8_1).f1)).f6).length c572_6), (.slice A572_7 ((rd_T130 ((rd_T68 l0 ((rd_T125 x7_1 x8_1).f0)).f0) ((rd_T125 x7_1 x8_1).f1)).f7).length c572_7)] 130 (0, 0))) ∧ Aside0 (Below w.heap.size w w'))
                 case atStart => exact ⟨(x7_1), (0), (by first | rfl | (simp; done) | (simp [*]; done)), H', ⟨Nat.le_refl _⟩, ⟨by (with_reducible repeat (first | apply Kd.R_alloc | apply Kd.R_drewN | apply Kd.R_drew)); exact Kd.R_mono (Kd.R_far (p := ⟨gb573, 7, none⟩) (Kd.R_far (p := ⟨gb573, 6, none⟩) (Kd.R_far (p := ⟨gb573, 5, none⟩) (Kd.R_far (p := ⟨gb573, 4, none⟩) (Kd.R_far (p := ⟨gb573, 3, none⟩) (Kd.R_far (p := ⟨gb573, 2, none⟩) (Kd.R_far (p := ⟨gb573, 1, none⟩) (Kd.R_far (p := ⟨gb573, 0, none⟩) (Kd.R_types HO_5.out BK573.out (by decide)) (fun _ hk => hk.2) (.string ((rd_T130 ((rd_T68 l0 ((rd_T125 x7_1 x8_1).f0)).f0) ((rd_T125 x7_1 x8_1).f1)).f0))) (fun _ hk => hk.2) (.int .i64 ((rd_T130 ((rd_T68 l0 ((rd_T125 x7_1 x8_1).f0)).f0) ((rd_T125 x7_1 x8_1).f1)).f1))) (fun _ hk => hk.2) (.int .i64 ((rd_T130 ((rd_T68 l0 ((rd_T125 x7_1 x8_1).f0)).f0) ((rd_T125 x7_1 x8_1).f1)).f2))) (fun _ hk => hk.2) (.int .i64 ((rd_T130 ((rd_T68 l0 ((rd_T125 x7_1 x8_1).f0)).f0) ((rd_T125 x7_1 x8_1).f1)).f3))) (fun _ hk => hk.2) (.slice A572_4 ((rd_T130 ((rd_T68 l0 ((rd_T125 x7_1 x8_1).f0)).f0) ((rd_T125 x7_1 x8_1).f1)).f4).length c572_4)) (fun _ hk => hk.2) (.int .i64 ((rd_T130 ((rd_T68 l0 ((rd_T125 x7_1 x8_1).f0)).f0) ((rd_T125 x7_1 x8_1).f1)).f5))) (fun _ hk => hk.2) (.slice A572_6 ((rd_T130 ((rd_T68 l0 ((rd_T125 x7_1 x8_1).f0)).f0) ((rd_T125 x7_1 x8_1).f1)).f6).length c572_6)) (fun _ hk => hk.2) (.slice A572_7 ((rd_T130 ((rd_T68 l0 ((rd_T125 x7_1 x8_1).f0)).f0) ((rd_T125 x7_1 x8_1).f1)).f7).length c572_7)) (fun _ hk => ⟨hk.1.1, hk.1.2⟩)⟩, ⟨by (with_reducible repeat (first | apply Kd.R_alloc | apply Kd.R_drewN | apply Kd.R_drew)); exact Kd.R_mono (Kd.R_far (p := ⟨gb573, 7, none⟩) (Kd.R_far (p := ⟨gb573, 6, none⟩) (Kd.R_far (p := ⟨gb573, 5, none⟩) (Kd.R_far (p := ⟨gb573, 4, none⟩) (Kd.R_far (p := ⟨gb573, 3, none⟩) (Kd.R_far (p := ⟨gb573, 2, none⟩) (Kd.R_far (p := ⟨gb573, 1, none⟩) (Kd.R_far (p := ⟨gb573, 0, none⟩) (Kd.R_types HO_7.out BK573.out (by decide)) (fun _ hk => hk.2) (.string ((rd_T130 ((rd_T68 l0 ((rd_T125 x7_1 x8_1).f0)).f0) ((rd_T125 x7_1 x8_1).f1)).f0))) (fun _ hk => hk.2) (.int .i64 ((rd_T130 ((rd_T68 l0 ((rd_T125 x7_1 x8_1).f0)).f0) ((rd_T125 x7_1 x8_1).f1)).f1))) (fun _ hk => hk.2) (.int .i64 ((rd_T130 ((rd_T68 l0 ((rd_T125 x7_1 x8_1).f0)).f0) ((rd_T125 x7_1 x8_1).f1)).f2))) (fun _ hk => hk.2) (.int .i64 ((rd_T130 ((rd_T68 l0 ((rd_T125 x7_1 x8_1).f0)).f0) ((rd_T125 x7_1 x8_1).f1)).f3))) (fun _ hk => hk.2) (.slice A572_4 ((rd_T130 ((rd_T68 l0 ((rd_T125 x7_1 x8_1).f0)).f0) ((rd_T125 x7_1 x8_1).f1)).f4).length c572_4)) (fun _ hk => hk.2) (.int .i64 ((rd_T130 ((rd_T68 l0 ((rd_T125 x7_1 x8_1).f0)).f0) ((rd_T125 x7_1 x8_1).f1)).f5))) (fun _ hk => hk.2) (.slice A572_6 ((rd_T130 ((rd_T68 l0 ((rd_T125 x7_1 x8_1).f0)).f0) ((rd_T125 x7_1 x8_1).f1)).f6).length c572_6)) (fun _ hk => hk.2) (.slice A572_7 ((rd_T130 ((rd_T68 l0 ((rd_T125 x7_1 x8_1).f0)).f0) ((rd_T125 x7_1 x8_1).f1)).f7).length c572_7)) (fun _ hk => ⟨hk.1.1, hk.1.2⟩)⟩, ⟨by (with_reducible repeat (first | refine blk_drewN ?_ _ | refine blk_drew ?_ | refine blk_alloc ?_ _)); refine blk_far ?_ NB564_573.out _; (with_reducible repeat (first | refine blk_drewN ?_ _ | refine blk_drew ?_ | refine blk_alloc ?_ _)); refine blk_far ?_ NB564_573.out _; (with_reducible repeat (first | refine blk_drewN ?_ _ | refine blk_drew ?_ | refine blk_alloc ?_ _)); refine blk_far ?_ NB564_573.out _; (with_reducible repeat (first | refine blk_drewN ?_ _ | refine blk_drew ?_ | refine blk_alloc ?_ _)); refine blk_far ?_ NB564_573.out _; (with_reducible repeat (first | refine blk_drewN ?_ _ | refine blk_drew ?_ | refine blk_alloc ?_ _)); refine blk_far ?_ NB564_573.out _; (with_reducible repeat (first | refine blk_drewN ?_ _ | refine blk_drew ?_ | refine blk_alloc ?_ _)); refine blk_far ?_ NB564_573.out _; (with_reducible repeat (first | refine blk_drewN ?_ _ | refine blk_drew ?_ | refine blk_alloc ?_ _)); refine blk_far ?_ NB564_573.out _; (with_reducible repeat (first | refine blk_drewN ?_ _ | refine blk_drew ?_ | refine blk_alloc ?_ _)); refine blk_far ?_ NB564_573.out _; (with_reducible repeat (first | refine blk_drewN ?_ _ | refine blk_drew ?_ | refine blk_alloc ?_ _)); exact BK564.out⟩, ⟨by (with_reducible repeat (first | refine blk_drewN ?_ _ | refine blk_drew ?_ | refine blk_alloc ?_ _)); refine blk_put (cs := #[.string ((rd_T130 ((rd_T68 l0 ((rd_T125 x7_1 x8_1).f0)).f0) ((rd_T125 x7_1 x8_1).f1)).f0), .int .i64 ((rd_T130 ((rd_T68 l0 ((rd_T125 x7_1 x8_1).f0)).f0) ((rd_T125 x7_1 x8_1).f1)).f1), .int .i64 ((rd_T130 ((rd_T68 l0 ((rd_T125 x7_1 x8_1).f0)).f0) ((rd_T125 x7_1 x8_1).f1)).f2), .int .i64 ((rd_T130 ((rd_T68 l0 ((rd_T125 x7_1 x8_1).f0)).f0) ((rd_T125 x7_1 x8_1).f1)).f3), .slice A572_4 ((rd_T130 ((rd_T68 l0 ((rd_T125 x7_1 x8_1).f0)).f0) ((rd_T125 x7_1 x8_1).f1)).f4).length c572_4, .int .i64 ((rd_T130 ((rd_T68 l0 ((rd_T125 x7_1 x8_1).f0)).f0) ((rd_T125 x7_1 x8_1).f1)).f5), .slice A572_6 ((rd_T130 ((rd_T68 l0 ((rd_T125 x7_1 x8_1).f0)).f0) ((rd_T125 x7_1 x8_1).f1)).f6).length c572_6, .slice none 0 0]) ?_ 7 _ rfl; (with_reducible repeat (first | refine blk_drewN ?_ _ | refine blk_drew ?_ | refine blk_alloc ?_ _)); refine blk_put (cs := #[.string ((rd_T130 ((rd_T68 l0 ((rd_T125 x7_1 x8_1).f0)).f0) ((rd_T125 x7_1 x8_1).f1)).f0), .int .i64 ((rd_T130 ((rd_T68 l0 ((rd_T125 x7_1 x8_1).f0)).f0) ((rd_T125 x7_1 x8_1).f1)).f1), .int .i64 ((rd_T130 ((rd_T68 l0 ((rd_T125 x7_1 x8_1).f0)).f0) ((rd_T125 x7_1 x8_1).f1)).f2), .int .i64 ((rd_T130 ((rd_T68 l0 ((rd_T125 x7_1 x8_1).f0)).f0) ((rd_T125 x7_1 x8_1).f1)).f3), .slice A572_4 ((rd_T130 ((rd_T68 l0 ((rd_T125 x7_1 x8_1).f0)).f0) ((rd_T125 x7_1 x8_1).f1)).f4).length c572_4, .int .i64 ((rd_T130 ((rd_T68 l0 ((rd_T125 x7_1 x8_1).f0)).f0) ((rd_T125 x7_1 x8_1).f1)).f5), .slice none 0 0, .slice none 0 0]) ?_ 6 _ rfl; (with_reducible repeat (first | refine blk_drewN ?_ _ | refine blk_drew ?_ | refine blk_alloc ?_ _)); refine blk_put (cs := #[.string ((rd_T130 ((rd_T68 l0 ((rd_T125 x7_1 x8_1).f0)).f0) ((rd_T125 x7_1 x8_1).f1)).f0), .int .i64 ((rd_T130 ((rd_T68 l0 ((rd_T125 x7_1 x8_1).f0)).f0) ((rd_T125 x7_1 x8_1).f1)).f1), .int .i64 ((rd_T130 ((rd_T68 l0 ((rd_T125 x7_1 x8_1).f0)).f0) ((rd_T125 x7_1 x8_1).f1)).f2), .int .i64 ((rd_T130 ((rd_T68 l0 ((rd_T125 x7_1 x8_1).f0)).f0) ((rd_T125 x7_1 x8_1).f1)).f3), .slice A572_4 ((rd_T130 ((rd_T68 l0 ((rd_T125 x7_1 x8_1).f0)).f0) ((rd_T125 x7_1 x8_1).f1)).f4).length c572_4, .int .i64 0, .slice none 0 0, .slice none 0 0]) ?_ 5 _ rfl; (with_reducible repeat (first | refine blk_drewN ?_ _ | refine blk_drew ?_ | refine blk_alloc ?_ _)); refine blk_put (cs := #[.string ((rd_T130 ((rd_T68 l0 ((rd_T125 x7_1 x8_1).f0)).f0) ((rd_T125 x7_1 x8_1).f1)).f0), .int .i64 ((rd_T130 ((rd_T68 l0 ((rd_T125 x7_1 x8_1).f0)).f0) ((rd_T125 x7_1 x8_1).f1)).f1), .int .i64 ((rd_T130 ((rd_T68 l0 ((rd_T125 x7_1 x8_1).f0)).f0) ((rd_T125 x7_1 x8_1).f1)).f2), .int .i64 ((rd_T130 ((rd_T68 l0 ((rd_T125 x7_1 x8_1).f0)).f0) ((rd_T125 x7_1 x8_1).f1)).f3), .slice none 0 0, .int .i64 0, .slice none 0 0, .slice none 0 0]) ?_ 4 _ rfl; (with_reducible repeat (first | refine blk_drewN ?_ _ | refine blk_drew ?_ | refine blk_alloc ?_ _)); refine blk_put (cs := #[.string ((rd_T130 ((rd_T68 l0 ((rd_T125 x7_1 x8_1).f0)).f0) ((rd_T125 x7_1 x8_1).f1)).f0), .int .i64 ((rd_T130 ((rd_T68 l0 ((rd_T125 x7_1 x8_1).f0)).f0) ((rd_T125 x7_1 x8_1).f1)).f1), .int .i64 ((rd_T130 ((rd_T68 l0 ((rd_T125 x7_1 x8_1).f0)).f0) ((rd_T125 x7_1 x8_1).f1)).f2), .int .i64 0, .slice none 0 0, .int .i64 0, .slice none 0 0, .slice none 0 0]) ?_ 3 _ rfl; (with_reducible repeat (first | refine blk_drewN ?_ _ | refine blk_drew ?_ | refine blk_alloc ?_ _)); refine blk_put (cs := #[.string ((rd_T130 ((rd_T68 l0 ((rd_T125 x7_1 x8_1).f0)).f0) ((rd_T125 x7_1 x8_1).f1)).f0), .int .i64 ((rd_T130 ((rd_T68 l0 ((rd_T125 x7_1 x8_1).f0)).f0) ((rd_T125 x7_1 x8_1).f1)).f1), .int .i64 0, .int .i64 0, .slice none 0 0, .int .i64 0, .slice none 0 0, .slice none 0 0]) ?_ 2 _ rfl; (with_reducible repeat (first | refine blk_drewN ?_ _ | refine blk_drew ?_ | refine blk_alloc ?_ _)); refine blk_put (cs := #[.string ((rd_T130 ((rd_T68 l0 ((rd_T125 x7_1 x8_1).f0)).f0) ((rd_T125 x7_1 x8_1).f1)).f0), .int .i64 0, .int .i64 0, .int .i64 0, .slice none 0 0, .int .i64 0, .slice none 0 0, .slice none 0 0]) ?_ 1 _ rfl; (with_reducible repeat (first | refine blk_drewN ?_ _ | refine blk_drew ?_ | refine blk_alloc ?_ _)); refine blk_put (cs := #[.string (⟨#[]⟩ : ByteArray), .int .i64 0, .int .i64 0, .int .i64 0, .slice none 0 0, .int .i64 0, .slice none 0 0, .slice none 0 0]) ?_ 0 _ rfl; (with_reducible repeat (first | refine blk_drewN ?_ _ | refine blk_drew ?_ | refine blk_alloc ?_ _)); exact BK573.out⟩, ⟨by repeat (first | (with_reducible first | exact HB.out | apply below_alloc | apply pw_below_drewN | apply below_drew1 | refine below_set ?_ GE564.out | refine below_set ?_ GE573.out) | exact HB.out)⟩⟩
                 case round =>
                  clear H'
                  try clear c1
                  try clear c2
                  try clear p2
                  try clear c3
                  try clear c5
                  try clear p5
                  try clear q5
                  try clear hx5
                  try clear c8
                  try clear c15
                  try clear c15b0
                  try clear c16
                  try clear c16b0
                  try clear c17
                  try clear c17b0
                  try clear c18
                  try clear c18b0
                  try clear c19
                  try clear c19b0
                  try clear c20
                  try clear c20b0
                  try clear hcz10_0
                  try clear hcz10_1
                  try clear hcz12_0
                  try clear hcz12_1
                  try clear hfz10_0
                  try clear hfz10_1
                  try clear hfz12_0
                  try clear hfz12_1
                  try clear hx569_0
                  try clear hx569_1
                  try clear hx570_0
                  try clear hx571_0
                  try clear hx571_1
                  try clear hx572_0
                  try clear hx572_1
                  try clear hx572_2
                  try clear hx572_3
                  try clear hx572_4
                  try clear hx572_5
                  try clear hx572_6
                  try clear hx572_7
                  try clear p2
                  try clear p569
                  try clear p570
                  try clear p571
                  try clear p572
                  try clear q569
                  try clear q570
                  try clear q571
                  try clear q572
                  obtain ⟨x7_2, x10_2, rfl, HA, HK2, HO_5, HO_7, BK564, BK573, HB⟩ := hrel
                  cases gk with
                  | zero => exact absurd HA.out (by simp [spec_Needed.l1])
                  | succ k2 =>
                   have H := HA.out
                   clear HA
                   simp only [spec_Needed.l1] at H
                   by_cases c32 : x10_2 < (((rd_T130 ((rd_T68 l0 ((rd_T125 x7_1 x8_1).f0)).f0) ((rd_T125 x7_1 x8_1).f1)).f7).length : Int)
                   · rw [if_pos c32] at H
                     have c32b0 : decide (x10_2 < (((rd_T130 ((rd_T68 l0 ((rd_T125 x7_1 x8_1).f0)).f0) ((rd_T125 x7_1 x8_1).f1)).f7).length : Int)) = true := decide_eq_true c32
                     clear c32
                     by_cases c33 : 0 ≤ x8_1
                     · rw [if_pos c33] at H
                       have c33b0 : decide (0 ≤ x8_1) = true := decide_eq_true c33
                       clear c33
                       by_cases c34 : x8_1 < (x7_2.length : Int)
                       · rw [if_pos c34] at H
                         have c34b0 : decide (x8_1 < (x7_2.length : Int)) = true := decide_eq_true c34
                         clear c34
                         by_cases c35 : 0 ≤ x10_2
                         · rw [if_pos c35] at H
                           have c35b0 : decide (0 ≤ x10_2) = true := decide_eq_true c35
                           clear c35
                           replace H := Option.bind_eq_some_iff.mp H
                           obtain ⟨⟨t576, t577⟩, A360, H⟩ := H
                           replace H : (spec_Needed.l2 k2 l0 y559 x7_2 x8_1 x10_2 (decide (t576 < 0)) 0 ((rd_T130 ((rd_T68 l0 ((rd_T125 x7_1 x8_1).f0)).f0) ((rd_T125 x7_1 x8_1).f1)).f0) ((rd_T130 ((rd_T68 l0 ((rd_T125 x7_1 x8_1).f0)).f0) ((rd_T125 x7_1 x8_1).f1)).f1) ((rd_T130 ((rd_T68 l0 ((rd_T125 x7_1 x8_1).f0)).f0) ((rd_T125 x7_1 x8_1).f1)).f2) ((rd_T130 ((rd_T68 l0 ((rd_T125 x7_1 x8_1).f0)).f0) ((rd_T125 x7_1 x8_1).f1)).f3) ((rd_T130 ((rd_T68 l0 ((rd_T125 x7_1 x8_1).f0)).f0) ((rd_T125 x7_1 x8_1).f1)).f4) ((rd_T130 ((rd_T68 l0 ((rd_T125 x7_1 x8_1).f0)).f0) ((rd_T125 x7_1 x8_1).f1)).f5) ((rd_T130 ((rd_T68 l0 ((rd_T125 x7_1 x8_1).f0)).f0) ((rd_T125 x7_1 x8_1).f1)).f6) ((rd_T130 ((rd_T68 l0 ((rd_T125 x7_1 x8_1).f0)).f0) ((rd_T125 x7_1 x8_1).f1)).f7) t576 t577) = some r := H
                           have A36 := Aside0.mk A360
                           clear A360
                           have H' := Aside0.mk H
                           clear H
                           have hnb37 := NB573_564.out
                           have hnc37 := NB564_573.out
                           have hcz38_0 : wr.cell? ⟨gb573, 0, none⟩ = some (.string ((rd_T130 ((rd_T68 l0 ((rd_T125 x7_1 x8_1).f0)).f0) ((rd_T125 x7_1 x8_1).f1)).f0)) := (blk_cell BK573.out 0).trans rfl
                           have hcz38_1 : wr.cell? ⟨gb573, 1, none⟩ = some (.int .i64 ((rd_T130 ((rd_T68 l0 ((rd_T125 x7_1 x8_1).f0)).f0) ((rd_T125 x7_1 x8_1).f1)).f1)) := (blk_cell BK573.out 1).trans rfl
                           have hcz38_2 : wr.cell? ⟨gb573, 2, none⟩ = some (.int .i64 ((rd_T130 ((rd_T68 l0 ((rd_T125 x7_1 x8_1).f0)).f0) ((rd_T125 x7_1 x8_1).f1)).f2)) := (blk_cell BK573.out 2).trans rfl
                           have hcz38_3 : wr.cell? ⟨gb573, 3, none⟩ = some (.int .i64 ((rd_T130 ((rd_T68 l0 ((rd_T125 x7_1 x8_1).f0)).f0) ((rd_T125 x7_1 x8_1).f1)).f3)) := (blk_cell BK573.out 3).trans rfl
                           have hcz38_4 : wr.cell? ⟨gb573, 4, none⟩ = some (.slice A572_4 ((rd_T130 ((rd_T68 l0 ((rd_T125 x7_1 x8_1).f0)).f0) ((rd_T125 x7_1 x8_1).f1)).f4).length c572_4) := (blk_cell BK573.out 4).trans rfl
                           have hcz38_5 : wr.cell? ⟨gb573, 5, none⟩ = some (.int .i64 ((rd_T130 ((rd_T68 l0 ((rd_T125 x7_1 x8_1).f0)).f0) ((rd_T125 x7_1 x8_1).f1)).f5)) := (blk_cell BK573.out 5).trans rfl
                           have hcz38_6 : wr.cell? ⟨gb573, 6, none⟩ = some (.slice A572_6 ((rd_T130 ((rd_T68 l0 ((rd_T125 x7_1 x8_1).f0)).f0) ((rd_T125 x7_1 x8_1).f1)).f6).length c572_6) := (blk_cell BK573.out 6).trans rfl
                           have hcz38_7 : wr.cell? ⟨gb573, 7, none⟩ = some (.slice A572_7 ((rd_T130 ((rd_T68 l0 ((rd_T125 x7_1 x8_1).f0)).f0) ((rd_T125 x7_1 x8_1).f1)).f7).length c572_7) := (blk_cell BK573.out 7).trans rfl
                           have hfz38_0 := blk_frozen BK573.out 0
                           have hfz38_1 := blk_frozen BK573.out 1
                           have hfz38_2 := blk_frozen BK573.out 2
                           have hfz38_3 := blk_frozen BK573.out 3
                           have hfz38_4 := blk_frozen BK573.out 4
                           have hfz38_5 := blk_frozen BK573.out 5
                           have hfz38_6 := blk_frozen BK573.out 6
                           have hfz38_7 := blk_frozen BK573.out 7
                           try go_wp2
                           have n0_ := Aside0.mk (Kd.R_drew HO_5.out)
                           have n1_ := Aside0.mk (Kd.R_drew HO_7.out)
                           have n2_ := Aside0.mk (blk_drew BK564.out)
                           have n3_ := Aside0.mk (blk_drew BK573.out)
                           have n4_ := Aside0.mk (below_drew1 HB.out)
                           clear HO_5
                           clear HO_7
                           clear BK564
                           clear BK573
                           clear HB
                           have HO_5 := n0_
                           have HO_7 := n1_
                           have BK564 := n2_
                           have BK573 := n3_
                           have HB := n4_
                           clear n0_ n1_ n2_ n3_ n4_
                           obtain ⟨Ao40, co40, eo40⟩ := Kd.R_slice HO_7.out
                           (first | subst eo40 | (injection eo40 with f1_ f2_ f3_; have f4_ := f1_.symm; have f5_ := f3_.symm; clear f1_ f2_ f3_; subst f4_; subst f5_))
                           have p574 : 0 ≤ (x8_1 : Int) := of_decide_eq_true (by first | (with_reducible assumption) | assumption)
                           have q574 : x8_1 < (x7_2.length : Int) := of_decide_eq_true (by first | (with_reducible assumption) | assumption)
                           obtain ⟨ad574, e574, hx574_0, hx574_1⟩ := at_T125 (Kd.R_reads' HO_7.out).2.2 x8_1 p574 q574
                           cases e574
                           replace p574 := eq_true p574
                           replace q574 := eq_true q574
                           have p575 : 0 ≤ (x10_2 : Int) := of_decide_eq_true (by first | (with_reducible assumption) | assumption)
                           have q575 : x10_2 < (((rd_T130 ((rd_T68 l0 ((rd_T125 x7_1 x8_1).f0)).f0) ((rd_T125 x7_1 x8_1).f1)).f7).length : Int) := of_decide_eq_true (by first | (with_reducible assumption) | assumption)
                           obtain ⟨ad575, e575, hx575_0, hx575_1, hx575_2⟩ := at_T132 HR572_7.out x10_2 p575 q575
                           have hw575_2 := hx575_2
                           have hw575_1 := hx575_1
                           have hw575_0 := hx575_0
                           cases e575
                           replace hx575_0 := (HB.out.cell (World.block_lt_of_cell? w _ hx575_0)).trans hx575_0
                           replace hx575_1 := (HB.out.cell (World.block_lt_of_cell? w _ hx575_1)).trans hx575_1
                           replace hx575_2 := (HB.out.cell (World.block_lt_of_cell? w _ hx575_2)).trans hx575_2
                           replace p575 := eq_true p575
                           replace q575 := eq_true q575
                           refine start_ (n := 15) (S := fun w' => w'.cell? ⟨gb573, 0, none⟩ = some (.string ((rd_T130 ((rd_T68 l0 ((rd_T125 x7_1 x8_1).f0)).f0) ((rd_T125 x7_1 x8_1).f1)).f0)) ∧ w'.cell? ⟨gb573, 1, none⟩ = some (.int .i64 ((rd_T130 ((rd_T68 l0 ((rd_T125 x7_1 x8_1).f0)).f0) ((rd_T125 x7_1 x8_1).f1)).f1)) ∧ w'.cell? ⟨gb573, 2, none⟩ = some (.int .i64 ((rd_T130 ((rd_T68 l0 ((rd_T125 x7_1 x8_1).f0)).f0) ((rd_T125 x7_1 x8_1).f1)).f2)) ∧ w'.cell? ⟨gb573, 3, none⟩ = some (.int .i64 ((rd_T130 ((rd_T68 l0 ((rd_T125 x7_1 x8_1).f0)).f0) ((rd_T125 x7_1 x8_1).f1)).f3)) ∧ w'.cell? ⟨gb573, 4, none⟩ = some (.slice A572_4 ((rd_T130 ((rd_T68 l0 ((rd_T125 x7_1 x8_1).f0)).f0) ((rd_T125 x7_1 x8_1).f1)).f4).length c572_4) ∧ w'.cell? ⟨gb573, 5, none⟩ = some (.int .i64 ((rd_T130 ((rd_T68 l0 ((rd_T125 x7_1 x8_1).f0)).f0) ((rd_T125 x7_1 x8_1).f1)).f5)) ∧ w'.cell? ⟨gb573, 6, none⟩ = some (.slice A572_6 ((rd_T130 ((rd_T68 l0 ((rd_T125 x7_1 x8_1).f0)).f0) ((rd_T125 x7_1 x8_1).f1)).f6).length c572_6) ∧ w'.cell? ⟨gb573, 7, none⟩ = some (.slice (some ad575) ((rd_T130 ((rd_T68 l0 ((rd_T125 x7_1 x8_1).f0)).f0) ((rd_T125 x7_1 x8_1).f1)).f7).length c572_7) ∧ w'.cell? (ad574.add ((x8_1).toNat * 2)) = some (.int .i64 ((rd_T125 x7_2 x8_1).f0)) ∧ w'.cell? ⟨(ad574.add ((x8_1).toNat * 2)).block, (ad574.add ((x8_1).toNat * 2)).off + 1, none⟩ = some (.int .i64 ((rd_T125 x7_2 x8_1).f1)) ∧ w'.cell? (ad575.add ((x10_2).toNat * 3)) = some (.int .i64 ((rd_T132 ((rd_T130 ((rd_T68 l0 ((rd_T125 x7_1 x8_1).f0)).f0) ((rd_T125 x7_1 x8_1).f1)).f7) x10_2).f0)) ∧ w'.cell? ⟨(ad575.add ((x10_2).toNat * 3)).block, (ad575.add ((x10_2).toNat * 3)).off + 1, none⟩ = some (.int .i64 ((rd_T132 ((rd_T130 ((rd_T68 l0 ((rd_T125 x7_1 x8_1).f0)).f0) ((rd_T125 x7_1 x8_1).f1)).f7) x10_2).f1)) ∧ w'.cell? ⟨(ad575.add ((x10_2).toNat * 3)).block, (ad575.add ((x10_2).toNat * 3)).off + 2, none⟩ = some (.string ((rd_T132 ((rd_T130 ((rd_T68 l0 ((rd_T125 x7_1 x8_1).f0)).f0) ((rd_T125 x7_1 x8_1).f1)).f7) x10_2).f2))) (ds := []) #[false, false, false, false, false, false, false, false, false, false, false, false, false, false, false] (by kernel_rfl) rfl rfl ⟨(blk_cell BK573.out 0).trans rfl, (blk_cell BK573.out 1).trans rfl, (blk_cell BK573.out 2).trans rfl, (blk_cell BK573.out 3).trans rfl, (blk_cell BK573.out 4).trans rfl, (blk_cell BK573.out 5).trans rfl, (blk_cell BK573.out 6).trans rfl, (blk_cell BK573.out 7).trans rfl, hx574_0, hx574_1, ((HB.out.cell (World.block_lt_of_cell? w _ hw575_0)).trans hw575_0), ((HB.out.cell (World.block_lt_of_cell? w _ hw575_1)).trans hw575_1), ((HB.out.cell (World.block_lt_of_cell? w _ hw575_2)).trans hw575_2)⟩ (fun hHeld => ?_); refine with_tabW spec_Needed.tab13 spec_Needed.bits13 (fun HT_ HW_ => ?_)
                           generalize wr.drew = w39 at HO_5 HO_7 BK564 BK573 HB hx574_0 hx574_1 hx575_0 hx575_1 hx575_2 hHeld ⊢
                           refine pure_ (i := 0) (N := some 57) (v := ?_) (a' := ?_) #[true, false, false, false, false, false, false, false, false, false, false, false, false, false, false] rfl rfl (any_of HT_.out (by kernel_rfl)) (fun _ _ _ h => h) (Or.inl ⟨by rfl, ?_⟩) ?_ ?_
                           rotate_left
                           · intro w'
                             go_simp
                             with_reducible rfl
                           rotate_left
                           · simp only [Act.put, List.setIfInBounds_toArray, List.set_cons_zero, List.set_cons_succ, i64_w, i32_w]
                             rfl
                           refine pure_ (i := 1) (N := some 58) (v := ?_) (a' := ?_) #[true, true, false, false, false, false, false, false, false, false, false, false, false, false, false] rfl rfl (any_of HT_.out (by kernel_rfl)) (fun _ _ _ h => h) (Or.inl ⟨by rfl, ?_⟩) ?_ ?_
                           rotate_left
                           · intro w'
                             go_simp
                             with_reducible rfl
                           rotate_left
                           · simp only [Act.put, List.setIfInBounds_toArray, List.set_cons_zero, List.set_cons_succ, i64_w, i32_w]
                             rfl
                           refine pure_ (i := 2) (N := some 59) (v := ?_) (a' := ?_) #[true, true, true, false, false, false, false, false, false, false, false, false, false, false, false] rfl rfl (any_of HT_.out (by kernel_rfl)) (fun _ _ _ h => h) (Or.inl ⟨by rfl, ?_⟩) ?_ ?_
                           rotate_left
                           · intro w'
                             go_simp
                             with_reducible rfl
                           rotate_left
                           · simp only [Act.put, List.setIfInBounds_toArray, List.set_cons_zero, List.set_cons_succ, i64_w, i32_w]
                             rfl
                           refine pure_ (i := 3) (N := some 60) (v := ?_) (a' := ?_) #[true, true, true, true, false, false, false, false, false, false, false, false, false, false, false] rfl rfl (any_of HT_.out (by kernel_rfl)) (fun _ _ _ h => h) (Or.inl ⟨by rfl, ?_⟩) ?_ ?_
                           rotate_left
                           · intro w'
                             go_simp
                             with_reducible rfl
                           rotate_left
                           · simp only [Act.put, List.setIfInBounds_toArray, List.set_cons_zero, List.set_cons_succ, i64_w, i32_w]
                             rfl
                           refine pure_ (i := 4) (N := some 61) (v := ?_) (a' := ?_) #[true, true, true, true, true, false, false, false, false, false, false, false, false, false, false] rfl rfl (any_of HT_.out (by kernel_rfl)) (fun _ _ _ h => h) (Or.inl ⟨by rfl, ?_⟩) ?_ ?_
                           rotate_left
                           · intro w'
                             go_simp
                             with_reducible rfl
                           rotate_left
                           · simp only [Act.put, List.setIfInBounds_toArray, List.set_cons_zero, List.set_cons_succ, i64_w, i32_w]
                             rfl
                           refine pure_ (i := 6) (N := some 63) (v := ?_) (a' := ?_) #[true, true, true, true, true, false, true, false, false, false, false, false, false, false, false] rfl rfl (any_of HT_.out (by kernel_rfl)) (fun _ _ _ h => h) (Or.inl ⟨by rfl, ?_⟩) ?_ ?_
                           rotate_left
                           · intro w'
                             go_simp
                             with_reducible rfl
                           rotate_left
                           · simp only [Act.put, List.setIfInBounds_toArray, List.set_cons_zero, List.set_cons_succ, i64_w, i32_w]
                             rfl
                           refine pure_ (i := 8) (N := some 65) (v := ?_) (a' := ?_) #[true, true, true, true, true, false, true, false, true, false, false, false, false, false, false] rfl rfl (any_of HT_.out (by kernel_rfl)) (fun _ _ _ h => h) (Or.inl ⟨by rfl, ?_⟩) ?_ ?_
                           rotate_left
                           · intro w'
                             go_simp
                             with_reducible rfl
                           rotate_left
                           · simp only [Act.put, List.setIfInBounds_toArray, List.set_cons_zero, List.set_cons_succ, i64_w, i32_w]
                             rfl
                           refine take_ (i := 5) (N := some 62) (v := ?_) (a' := ?_) #[true, true, true, true, true, true, true, false, true, false, false, false, false, false, false] rfl rfl (take_ofW HT_.out HW_.out (by kernel_rfl)) (fun _ _ _ h => h) (Or.inl ⟨by rfl, ?_⟩) hHeld ?_ ?_
                           rotate_left
                           · rintro w' ⟨s0, s1, s2, s3, s4, s5, s6, s7, s8, s9, s10, s11, s12⟩
                             go_simp
                             with_reducible rfl
                           rotate_left
                           · simp only [Act.put, List.setIfInBounds_toArray, List.set_cons_zero, List.set_cons_succ, i64_w, i32_w]
                             rfl
                           refine take_ (i := 7) (N := some 64) (v := ?_) (a' := ?_) #[true, true, true, true, true, true, true, true, true, false, false, false, false, false, false] rfl rfl (take_ofW HT_.out HW_.out (by kernel_rfl)) (fun _ _ _ h => h) (Or.inl ⟨by rfl, ?_⟩) hHeld ?_ ?_
                           rotate_left
                           · rintro w' ⟨s0, s1, s2, s3, s4, s5, s6, s7, s8, s9, s10, s11, s12⟩
                             go_simp
                             with_reducible rfl
                           rotate_left
                           · simp only [Act.put, List.setIfInBounds_toArray, List.set_cons_zero, List.set_cons_succ, i64_w, i32_w]
                             rfl
                           refine pure_ (i := 9) (N := some 66) (v := ?_) (a' := ?_) #[true, true, true, true, true, true, true, true, true, true, false, false, false, false, false] rfl rfl (any_of HT_.out (by kernel_rfl)) (fun _ _ _ h => h) (Or.inl ⟨by rfl, ?_⟩) ?_ ?_
                           rotate_left
                           · intro w'
                             go_simp
                             with_reducible rfl
                           rotate_left
                           · simp only [Act.put, List.setIfInBounds_toArray, List.set_cons_zero, List.set_cons_succ, i64_w, i32_w]
                             rfl
                           refine pure_ (i := 10) (N := some 67) (v := ?_) (a' := ?_) #[true, true, true, true, true, true, true, true, true, true, true, false, false, false, false] rfl rfl (any_of HT_.out (by kernel_rfl)) (fun _ _ _ h => h) (Or.inl ⟨by rfl, ?_⟩) ?_ ?_
                           rotate_left
                           · intro w'
                             go_simp
                             with_reducible rfl
                           rotate_left
                           · simp only [Act.put, List.setIfInBounds_toArray, List.set_cons_zero, List.set_cons_succ, i64_w, i32_w]
                             rfl
                           refine take_ (i := 11) (N := some 68) (v := ?_) (a' := ?_) #[true, true, true, true, true, true, true, true, true, true, true, true, false, false, false] rfl rfl (take_ofW HT_.out HW_.out (by kernel_rfl)) (fun _ _ _ h => h) (Or.inl ⟨by rfl, ?_⟩) hHeld ?_ ?_
                           rotate_left
                           · rintro w' ⟨s0, s1, s2, s3, s4, s5, s6, s7, s8, s9, s10, s11, s12⟩
                             go_simp
                             with_reducible rfl
                           rotate_left
                           · simp only [Act.put, List.setIfInBounds_toArray, List.set_cons_zero, List.set_cons_succ, i64_w, i32_w]
                             rfl
                           refine join_ (σ := Nat) 1 #[true, true, true, true, true, true, true, true, true, true, true, true, true, true, false] (fun s_ => [(69, .agg #[.int .i64 t576, .int .i64 t577]), (11, .pointer (some ⟨s_, 0, none⟩))]) (fun s_ w' => (w'.cell? ⟨gb573, 0, none⟩ = some (.string ((rd_T130 ((rd_T68 l0 ((rd_T125 x7_1 x8_1).f0)).f0) ((rd_T125 x7_1 x8_1).f1)).f0)) ∧ w'.cell? ⟨gb573, 1, none⟩ = some (.int .i64 ((rd_T130 ((rd_T68 l0 ((rd_T125 x7_1 x8_1).f0)).f0) ((rd_T125 x7_1 x8_1).f1)).f1)) ∧ w'.cell? ⟨gb573, 2, none⟩ = some (.int .i64 ((rd_T130 ((rd_T68 l0 ((rd_T125 x7_1 x8_1).f0)).f0) ((rd_T125 x7_1 x8_1).f1)).f2)) ∧ w'.cell? ⟨gb573, 3, none⟩ = some (.int .i64 ((rd_T130 ((rd_T68 l0 ((rd_T125 x7_1 x8_1).f0)).f0) ((rd_T125 x7_1 x8_1).f1)).f3)) ∧ w'.cell? ⟨gb573, 4, none⟩ = some (.slice A572_4 ((rd_T130 ((rd_T68 l0 ((rd_T125 x7_1 x8_1).f0)).f0) ((rd_T125 x7_1 x8_1).f1)).f4).length c572_4) ∧ w'.cell? ⟨gb573, 5, none⟩ = some (.int .i64 ((rd_T130 ((rd_T68 l0 ((rd_T125 x7_1 x8_1).f0)).f0) ((rd_T125 x7_1 x8_1).f1)).f5)) ∧ w'.cell? ⟨gb573, 6, none⟩ = some (.slice A572_6 ((rd_T130 ((rd_T68 l0 ((rd_T125 x7_1 x8_1).f0)).f0) ((rd_T125 x7_1 x8_1).f1)).f6).length c572_6) ∧ w'.cell? ⟨gb573, 7, none⟩ = some (.slice (some ad575) ((rd_T130 ((rd_T68 l0 ((rd_T125 x7_1 x8_1).f0)).f0) ((rd_T125 x7_1 x8_1).f1)).f7).length c572_7) ∧ w'.cell? (ad574.add ((x8_1).toNat * 2)) = some (.int .i64 ((rd_T125 x7_2 x8_1).f0)) ∧ w'.cell? ⟨(ad574.add ((x8_1).toNat * 2)).block, (ad574.add ((x8_1).toNat * 2)).off + 1, none⟩ = some (.int .i64 ((rd_T125 x7_2 x8_1).f1)) ∧ w'.cell? (ad575.add ((x10_2).toNat * 3)) = some (.int .i64 ((rd_T132 ((rd_T130 ((rd_T68 l0 ((rd_T125 x7_1 x8_1).f0)).f0) ((rd_T125 x7_1 x8_1).f1)).f7) x10_2).f0)) ∧ w'.cell? ⟨(ad575.add ((x10_2).toNat * 3)).block, (ad575.add ((x10_2).toNat * 3)).off + 1, none⟩ = some (.int .i64 ((rd_T132 ((rd_T130 ((rd_T68 l0 ((rd_T125 x7_1 x8_1).f0)).f0) ((rd_T125 x7_1 x8_1).f1)).f7) x10_2).f1)) ∧ w'.cell? ⟨(ad575.add ((x10_2).toNat * 3)).block, (ad575.add ((x10_2).toNat * 3)).off + 2, none⟩ = some (.string ((rd_T132 ((rd_T130 ((rd_T68 l0 ((rd_T125 x7_1 x8_1).f0)).f0) ((rd_T125 x7_1 x8_1).f1)).f7) x10_2).f2))) ∧ (Kd.R k125 125 w' w.heap.size (fun k_ => some k_ ≠ (.slice (some ad574) x7_2.length co40 : Value).ownBlock ∧ k_ ≠ gb564 ∧ k_ ≠ s_) v560 y559) ∧ (Kd.R k125 125 w' w.heap.size (fun k_ => some k_ ≠ (v560 : Value).ownBlock ∧ k_ ≠ gb564 ∧ k_ ≠ s_) (.slice (some ad574) x7_2.length co40) x7_2) ∧ (w'.heap[gb564]? = some (.cells #[.int .i64 t562, .int .i64 t563] 125 (0, 0))) ∧ (w'.heap[gb573]? = some (.cells #[.string ((rd_T130 ((rd_T68 l0 ((rd_T125 x7_1 x8_1).f0)).f0) ((rd_T125 x7_1 x8_1).f1)).f0), .int .i64 ((rd_T130 ((rd_T68 l0 ((rd_T125 x7_1 x8_1).f0)).f0) ((rd_T125 x7_1 x8_1).f1)).f1), .int .i64 ((rd_T130 ((rd_T68 l0 ((rd_T125 x7_1 x8_1).f0)).f0) ((rd_T125 x7_1 x8_1).f1)).f2), .int .i64 ((rd_T130 ((rd_T68 l0 ((rd_T125 x7_1 x8_1).f0)).f0) ((rd_T125 x7_1 x8_1).f1)).f3), .slice A572_4 ((rd_T130 ((rd_T68 l0 ((rd_T125 x7_1 x8_1).f0)).f0) ((rd_T125 x7_1 x8_1).f1)).f4).length c572_4, .int .i64 ((rd_T130 ((rd_T68 l0 ((rd_T125 x7_1 x8_1).f0)).f0) ((rd_T125 x7_1 x8_1).f1)).f5), .slice A572_6 ((rd_T130 ((rd_T68 l0 ((rd_T125 x7_1 x8_1).f0)).f0) ((rd_T125 x7_1 x8_1).f1)).f6).length c572_6, .slice (some ad575) ((rd_T130 ((rd_T68 l0 ((rd_T125 x7_1 x8_1).f0)).f0) ((rd_T125 x7_1 x8_1).f1)).f7).length c572_7] 130 (0, 0))) ∧ (w'.heap[s_]? = some (.cells #[.int .i64 0, .int .i64 0] 125 (0, 0))) ∧ (w.heap.size ≤ s_) ∧ (w.heap.size ≤ s_) ∧ (gb564 ≠ s_) ∧ (s_ ≠ gb564) ∧ (gb573 ≠ s_) ∧ (s_ ≠ gb573) ∧ (Below w.heap.size w w')) ?_ ?_
                           rotate_left
                           · intro hCont
                             refine two_ (i := 12) (j := 13) (Ni := some 69) (Nj := some 11) #[true, true, true, true, true, true, true, true, true, true, true, true, true, false, false] #[true, true, true, true, true, true, true, true, true, true, true, true, false, true, false] rfl rfl rfl rfl (two_of HT_.out (by kernel_rfl)) (by decide) (by decide) (fun K hK => ?_) (fun K hK => ?_)
                             · skip
                               refine goes_ Try.func85 (by kernel_rfl) rfl #[.slice (some ad570) l0.length c0, .int .i64 ((rd_T125 x7_2 x8_1).f0), .string ((rd_T132 ((rd_T130 ((rd_T68 l0 ((rd_T125 x7_1 x8_1).f0)).f0) ((rd_T125 x7_1 x8_1).f1)).f7) x10_2).f2)] (by rfl) rfl rfl (by (try simp only [List.map_toArray, List.map_cons, List.map_nil]); first | done | rfl | (simp only [List.length_drop, List.length_take]; rfl)) ?_
                               with_reducible refine (spec_l20Of.calls k2 (fun k_ => k_ < w.heap.size) _ _ l0 ((rd_T125 x7_2 x8_1).f0) ((rd_T132 ((rd_T130 ((rd_T68 l0 ((rd_T125 x7_1 x8_1).f0)).f0) ((rd_T125 x7_1 x8_1).f1)).f7) x10_2).f2) t576 t577 _ ?side1 A36.out).mono ?_
                               (case side1 => exact Kd.V_mk HC0.out (Kd.F_below (Kd.C_F k68_heap HR0.out) (by repeat (first | (with_reducible first | exact HB.out | apply below_alloc | apply pw_below_drewN | apply below_drew1 | refine below_set ?_ GE564.out | refine below_set ?_ GE573.out) | exact HB.out))))
                               rintro e w41 ⟨rfl, hb⟩
                               have HS8_ := (hb.cell (World.block_lt_of_cell? _ _ (hHeld.2.2.2.2.2.2.2.2.1))).trans (hHeld.2.2.2.2.2.2.2.2.1)
                               have HS9_ := (hb.cell (World.block_lt_of_cell? _ _ (hHeld.2.2.2.2.2.2.2.2.2.1))).trans (hHeld.2.2.2.2.2.2.2.2.2.1)
                               refine ⟨_, rfl, ?_⟩
                               have n0_ := Aside0.mk (Kd.R_below (by (with_reducible repeat (first | apply Kd.R_alloc | apply Kd.R_drewN | apply Kd.R_drew)); exact HO_5.out) hb)
                               have n1_ := Aside0.mk (Kd.R_below (by (with_reducible repeat (first | apply Kd.R_alloc | apply Kd.R_drewN | apply Kd.R_drew)); exact HO_7.out) hb)
                               have n2_ := Aside0.mk (blk_below (g := gb564) (o := .cells #[.int .i64 t562, .int .i64 t563] 125 (0, 0)) (by (with_reducible repeat (first | refine blk_drewN ?_ _ | refine blk_drew ?_ | refine blk_alloc ?_ _)); exact BK564.out) hb)
                               have n3_ := Aside0.mk (blk_below (g := gb573) (o := .cells #[.string ((rd_T130 ((rd_T68 l0 ((rd_T125 x7_1 x8_1).f0)).f0) ((rd_T125 x7_1 x8_1).f1)).f0), .int .i64 ((rd_T130 ((rd_T68 l0 ((rd_T125 x7_1 x8_1).f0)).f0) ((rd_T125 x7_1 x8_1).f1)).f1), .int .i64 ((rd_T130 ((rd_T68 l0 ((rd_T125 x7_1 x8_1).f0)).f0) ((rd_T125 x7_1 x8_1).f1)).f2), .int .i64 ((rd_T130 ((rd_T68 l0 ((rd_T125 x7_1 x8_1).f0)).f0) ((rd_T125 x7_1 x8_1).f1)).f3), .slice A572_4 ((rd_T130 ((rd_T68 l0 ((rd_T125 x7_1 x8_1).f0)).f0) ((rd_T125 x7_1 x8_1).f1)).f4).length c572_4, .int .i64 ((rd_T130 ((rd_T68 l0 ((rd_T125 x7_1 x8_1).f0)).f0) ((rd_T125 x7_1 x8_1).f1)).f5), .slice A572_6 ((rd_T130 ((rd_T68 l0 ((rd_T125 x7_1 x8_1).f0)).f0) ((rd_T125 x7_1 x8_1).f1)).f6).length c572_6, .slice (some ad575) ((rd_T130 ((rd_T68 l0 ((rd_T125 x7_1 x8_1).f0)).f0) ((rd_T125 x7_1 x8_1).f1)).f7).length c572_7] 130 (0, 0)) (by (with_reducible repeat (first | refine blk_drewN ?_ _ | refine blk_drew ?_ | refine blk_alloc ?_ _)); exact BK573.out) hb)
                               have n4_ := Aside0.mk (below_step (by repeat (first | (with_reducible first | exact HB.out | apply below_alloc | apply pw_below_drewN | apply below_drew1 | refine below_set ?_ GE564.out | refine below_set ?_ GE573.out) | exact HB.out)) hb)
                               clear HO_5
                               clear HO_7
                               clear BK564
                               clear BK573
                               clear HB
                               have HO_5 := n0_
                               have HO_7 := n1_
                               have BK564 := n2_
                               have BK573 := n3_
                               have HB := n4_
                               clear n0_ n1_ n2_ n3_ n4_
                               (try clear hb)
                               (try clear hb2)
                               (try clear hk)
                               (try clear hi)
                               refine hK.out _ _ ⟨(blk_cell BK573.out 0).trans rfl, (blk_cell BK573.out 1).trans rfl, (blk_cell BK573.out 2).trans rfl, (blk_cell BK573.out 3).trans rfl, (blk_cell BK573.out 4).trans rfl, (blk_cell BK573.out 5).trans rfl, (blk_cell BK573.out 6).trans rfl, (blk_cell BK573.out 7).trans rfl, HS8_, HS9_, ((HB.out.cell (World.block_lt_of_cell? w _ hw575_0)).trans hw575_0), ((HB.out.cell (World.block_lt_of_cell? w _ hw575_1)).trans hw575_1), ((HB.out.cell (World.block_lt_of_cell? w _ hw575_2)).trans hw575_2)⟩ (fun hHeld => ?_)
                               clear hK K
                               refine norm_ (a' := ?_) ?_ ?_
                               rotate_left
                               · show Act.put _ (some 69) _ = _
                                 simp only [Act.put, List.setIfInBounds_toArray, List.set_cons_zero, List.set_cons_succ, i64_w, i32_w]
                                 rfl
                               refine one_ (i := 13) (N := some 11) #[true, true, true, true, true, true, true, true, true, true, true, true, true, true, false] rfl rfl (one_of HT_.out (by kernel_rfl)) (by decide) (fun K hK => ?_)
                               refine box_step ?hg (N := 11) ?hd (cs := #[.int .i64 0, .int .i64 0]) (t := 125) ?hr ?_; (case hd => rfl); (case hg => rfl); (case hr => first | (go_simp; done) | (go_simp; rfl))
                               intro gb578 hg w42 hbox hb
                               have HS8_ := (hb.cell (World.block_lt_of_cell? _ _ (hHeld.2.2.2.2.2.2.2.2.1))).trans (hHeld.2.2.2.2.2.2.2.2.1)
                               have HS9_ := (hb.cell (World.block_lt_of_cell? _ _ (hHeld.2.2.2.2.2.2.2.2.2.1))).trans (hHeld.2.2.2.2.2.2.2.2.2.1)
                               have n0_ := Aside0.mk (Kd.R_below (Kd.R_elderB (by (with_reducible repeat (first | apply Kd.R_alloc | apply Kd.R_drewN | apply Kd.R_drew)); exact HO_5.out) gb578 (Nat.le_of_eq hg.symm)) hb)
                               have n1_ := Aside0.mk (Kd.R_below (Kd.R_elderB (by (with_reducible repeat (first | apply Kd.R_alloc | apply Kd.R_drewN | apply Kd.R_drew)); exact HO_7.out) gb578 (Nat.le_of_eq hg.symm)) hb)
                               have n2_ := Aside0.mk (blk_below (g := gb564) (o := .cells #[.int .i64 t562, .int .i64 t563] 125 (0, 0)) (by (with_reducible repeat (first | refine blk_drewN ?_ _ | refine blk_drew ?_ | refine blk_alloc ?_ _)); exact BK564.out) hb)
                               have n3_ := Aside0.mk (blk_below (g := gb573) (o := .cells #[.string ((rd_T130 ((rd_T68 l0 ((rd_T125 x7_1 x8_1).f0)).f0) ((rd_T125 x7_1 x8_1).f1)).f0), .int .i64 ((rd_T130 ((rd_T68 l0 ((rd_T125 x7_1 x8_1).f0)).f0) ((rd_T125 x7_1 x8_1).f1)).f1), .int .i64 ((rd_T130 ((rd_T68 l0 ((rd_T125 x7_1 x8_1).f0)).f0) ((rd_T125 x7_1 x8_1).f1)).f2), .int .i64 ((rd_T130 ((rd_T68 l0 ((rd_T125 x7_1 x8_1).f0)).f0) ((rd_T125 x7_1 x8_1).f1)).f3), .slice A572_4 ((rd_T130 ((rd_T68 l0 ((rd_T125 x7_1 x8_1).f0)).f0) ((rd_T125 x7_1 x8_1).f1)).f4).length c572_4, .int .i64 ((rd_T130 ((rd_T68 l0 ((rd_T125 x7_1 x8_1).f0)).f0) ((rd_T125 x7_1 x8_1).f1)).f5), .slice A572_6 ((rd_T130 ((rd_T68 l0 ((rd_T125 x7_1 x8_1).f0)).f0) ((rd_T125 x7_1 x8_1).f1)).f6).length c572_6, .slice (some ad575) ((rd_T130 ((rd_T68 l0 ((rd_T125 x7_1 x8_1).f0)).f0) ((rd_T125 x7_1 x8_1).f1)).f7).length c572_7] 130 (0, 0)) (by (with_reducible repeat (first | refine blk_drewN ?_ _ | refine blk_drew ?_ | refine blk_alloc ?_ _)); exact BK573.out) hb)
                               have n4_ := Aside0.mk (below_step (by repeat (first | (with_reducible first | exact HB.out | apply below_alloc | apply pw_below_drewN | apply below_drew1 | refine below_set ?_ GE564.out | refine below_set ?_ GE573.out) | exact HB.out)) hb)
                               have n5_ := Aside0.mk (hbox)
                               have n6_ := Aside0.mk ((by rw [hg]; exact (below_size (by repeat (first | (with_reducible first | exact HB.out | apply below_alloc | apply pw_below_drewN | apply below_drew1 | refine below_set ?_ GE564.out | refine below_set ?_ GE573.out) | exact HB.out))) : w.heap.size ≤ gb578))
                               have n7_ := Aside0.mk ((by rw [hg]; exact (below_size (by repeat (first | (with_reducible first | exact HB.out | apply below_alloc | apply pw_below_drewN | apply below_drew1 | refine below_set ?_ GE564.out | refine below_set ?_ GE573.out) | exact HB.out))) : w.heap.size ≤ gb578))
                               have n8_ := Aside0.mk ((by rw [hg]; exact Nat.ne_of_lt (blk_lt (g := gb564) (o := .cells #[.int .i64 t562, .int .i64 t563] 125 (0, 0)) (by (with_reducible repeat (first | refine blk_drewN ?_ _ | refine blk_drew ?_ | refine blk_alloc ?_ _)); exact BK564.out)) : gb564 ≠ gb578))
                               have n9_ := Aside0.mk ((by rw [hg]; exact Nat.ne_of_gt (blk_lt (g := gb564) (o := .cells #[.int .i64 t562, .int .i64 t563] 125 (0, 0)) (by (with_reducible repeat (first | refine blk_drewN ?_ _ | refine blk_drew ?_ | refine blk_alloc ?_ _)); exact BK564.out)) : gb578 ≠ gb564))
                               have n10_ := Aside0.mk ((by rw [hg]; exact Nat.ne_of_lt (blk_lt (g := gb573) (o := .cells #[.string ((rd_T130 ((rd_T68 l0 ((rd_T125 x7_1 x8_1).f0)).f0) ((rd_T125 x7_1 x8_1).f1)).f0), .int .i64 ((rd_T130 ((rd_T68 l0 ((rd_T125 x7_1 x8_1).f0)).f0) ((rd_T125 x7_1 x8_1).f1)).f1), .int .i64 ((rd_T130 ((rd_T68 l0 ((rd_T125 x7_1 x8_1).f0)).f0) ((rd_T125 x7_1 x8_1).f1)).f2), .int .i64 ((rd_T130 ((rd_T68 l0 ((rd_T125 x7_1 x8_1).f0)).f0) ((rd_T125 x7_1 x8_1).f1)).f3), .slice A572_4 ((rd_T130 ((rd_T68 l0 ((rd_T125 x7_1 x8_1).f0)).f0) ((rd_T125 x7_1 x8_1).f1)).f4).length c572_4, .int .i64 ((rd_T130 ((rd_T68 l0 ((rd_T125 x7_1 x8_1).f0)).f0) ((rd_T125 x7_1 x8_1).f1)).f5), .slice A572_6 ((rd_T130 ((rd_T68 l0 ((rd_T125 x7_1 x8_1).f0)).f0) ((rd_T125 x7_1 x8_1).f1)).f6).length c572_6, .slice (some ad575) ((rd_T130 ((rd_T68 l0 ((rd_T125 x7_1 x8_1).f0)).f0) ((rd_T125 x7_1 x8_1).f1)).f7).length c572_7] 130 (0, 0)) (by (with_reducible repeat (first | refine blk_drewN ?_ _ | refine blk_drew ?_ | refine blk_alloc ?_ _)); exact BK573.out)) : gb573 ≠ gb578))
                               have n11_ := Aside0.mk ((by rw [hg]; exact Nat.ne_of_gt (blk_lt (g := gb573) (o := .cells #[.string ((rd_T130 ((rd_T68 l0 ((rd_T125 x7_1 x8_1).f0)).f0) ((rd_T125 x7_1 x8_1).f1)).f0), .int .i64 ((rd_T130 ((rd_T68 l0 ((rd_T125 x7_1 x8_1).f0)).f0) ((rd_T125 x7_1 x8_1).f1)).f1), .int .i64 ((rd_T130 ((rd_T68 l0 ((rd_T125 x7_1 x8_1).f0)).f0) ((rd_T125 x7_1 x8_1).f1)).f2), .int .i64 ((rd_T130 ((rd_T68 l0 ((rd_T125 x7_1 x8_1).f0)).f0) ((rd_T125 x7_1 x8_1).f1)).f3), .slice A572_4 ((rd_T130 ((rd_T68 l0 ((rd_T125 x7_1 x8_1).f0)).f0) ((rd_T125 x7_1 x8_1).f1)).f4).length c572_4, .int .i64 ((rd_T130 ((rd_T68 l0 ((rd_T125 x7_1 x8_1).f0)).f0) ((rd_T125 x7_1 x8_1).f1)).f5), .slice A572_6 ((rd_T130 ((rd_T68 l0 ((rd_T125 x7_1 x8_1).f0)).f0) ((rd_T125 x7_1 x8_1).f1)).f6).length c572_6, .slice (some ad575) ((rd_T130 ((rd_T68 l0 ((rd_T125 x7_1 x8_1).f0)).f0) ((rd_T125 x7_1 x8_1).f1)).f7).length c572_7] 130 (0, 0)) (by (with_reducible repeat (first | refine blk_drewN ?_ _ | refine blk_drew ?_ | refine blk_alloc ?_ _)); exact BK573.out)) : gb578 ≠ gb573))
                               clear HO_5
                               clear HO_7
                               clear BK564
                               clear BK573
                               clear HB
                               have HO_5 := n0_
                               have HO_7 := n1_
                               have BK564 := n2_
                               have BK573 := n3_
                               have HB := n4_
                               have BK578 := n5_
                               have GW578 := n6_
                               have GE578 := n7_
                               have NB564_578 := n8_
                               have NB578_564 := n9_
                               have NB573_578 := n10_
                               have NB578_573 := n11_
                               clear n0_ n1_ n2_ n3_ n4_ n5_ n6_ n7_ n8_ n9_ n10_ n11_
                               clear hb hbox hg
                               refine hK.out _ _ ⟨(blk_cell BK573.out 0).trans rfl, (blk_cell BK573.out 1).trans rfl, (blk_cell BK573.out 2).trans rfl, (blk_cell BK573.out 3).trans rfl, (blk_cell BK573.out 4).trans rfl, (blk_cell BK573.out 5).trans rfl, (blk_cell BK573.out 6).trans rfl, (blk_cell BK573.out 7).trans rfl, HS8_, HS9_, ((HB.out.cell (World.block_lt_of_cell? w _ hw575_0)).trans hw575_0), ((HB.out.cell (World.block_lt_of_cell? w _ hw575_1)).trans hw575_1), ((HB.out.cell (World.block_lt_of_cell? w _ hw575_2)).trans hw575_2)⟩ (fun hHeld => ?_)
                               clear hK K
                               refine norm_ (a' := ?_) ?_ ?_
                               rotate_left
                               · show Act.put _ (some 11) _ = _
                                 simp only [Act.put, List.setIfInBounds_toArray, List.set_cons_zero, List.set_cons_succ, i64_w, i32_w]
                                 rfl
                               exact norm_ (by simp only [putAll, Act.put, List.setIfInBounds_toArray, List.set_cons_zero, List.set_cons_succ]) (hCont (gb578) _ ⟨hHeld, (by (with_reducible repeat (first | apply Kd.R_alloc | apply Kd.R_drewN | apply Kd.R_drew)); exact Kd.R_mono HO_5.out (fun _ hk => ⟨hk.1.1, ⟨hk.1.2, hk.2⟩⟩)), (by (with_reducible repeat (first | apply Kd.R_alloc | apply Kd.R_drewN | apply Kd.R_drew)); exact Kd.R_mono HO_7.out (fun _ hk => ⟨hk.1.1, ⟨hk.1.2, hk.2⟩⟩)), (by (with_reducible repeat (first | refine blk_drewN ?_ _ | refine blk_drew ?_ | refine blk_alloc ?_ _)); exact BK564.out), (by (with_reducible repeat (first | refine blk_drewN ?_ _ | refine blk_drew ?_ | refine blk_alloc ?_ _)); exact BK573.out), (by (with_reducible repeat (first | refine blk_drewN ?_ _ | refine blk_drew ?_ | refine blk_alloc ?_ _)); exact BK578.out), GW578.out, GE578.out, NB564_578.out, NB578_564.out, NB573_578.out, NB578_573.out, (by repeat (first | (with_reducible first | exact HB.out | apply below_alloc | apply pw_below_drewN | apply below_drew1 | refine below_set ?_ GE564.out | refine below_set ?_ GE573.out | refine below_set ?_ GE578.out) | exact HB.out))⟩)
                             · skip
                               refine box_step ?hg (N := 11) ?hd (cs := #[.int .i64 0, .int .i64 0]) (t := 125) ?hr ?_; (case hd => rfl); (case hg => rfl); (case hr => first | (go_simp; done) | (go_simp; rfl))
                               intro gb578 hg w41 hbox hb
                               have HS8_ := (hb.cell (World.block_lt_of_cell? _ _ (hHeld.2.2.2.2.2.2.2.2.1))).trans (hHeld.2.2.2.2.2.2.2.2.1)
                               have HS9_ := (hb.cell (World.block_lt_of_cell? _ _ (hHeld.2.2.2.2.2.2.2.2.2.1))).trans (hHeld.2.2.2.2.2.2.2.2.2.1)
                               have n0_ := Aside0.mk (Kd.R_below (Kd.R_elderB (by (with_reducible repeat (first | apply Kd.R_alloc | apply Kd.R_drewN | apply Kd.R_drew)); exact HO_5.out) gb578 (Nat.le_of_eq hg.symm)) hb)
                               have n1_ := Aside0.mk (Kd.R_below (Kd.R_elderB (by (with_reducible repeat (first | apply Kd.R_alloc | apply Kd.R_drewN | apply Kd.R_drew)); exact HO_7.out) gb578 (Nat.le_of_eq hg.symm)) hb)
                               have n2_ := Aside0.mk (blk_below (g := gb564) (o := .cells #[.int .i64 t562, .int .i64 t563] 125 (0, 0)) (by (with_reducible repeat (first | refine blk_drewN ?_ _ | refine blk_drew ?_ | refine blk_alloc ?_ _)); exact BK564.out) hb)
                               have n3_ := Aside0.mk (blk_below (g := gb573) (o := .cells #[.string ((rd_T130 ((rd_T68 l0 ((rd_T125 x7_1 x8_1).f0)).f0) ((rd_T125 x7_1 x8_1).f1)).f0), .int .i64 ((rd_T130 ((rd_T68 l0 ((rd_T125 x7_1 x8_1).f0)).f0) ((rd_T125 x7_1 x8_1).f1)).f1), .int .i64 ((rd_T130 ((rd_T68 l0 ((rd_T125 x7_1 x8_1).f0)).f0) ((rd_T125 x7_1 x8_1).f1)).f2), .int .i64 ((rd_T130 ((rd_T68 l0 ((rd_T125 x7_1 x8_1).f0)).f0) ((rd_T125 x7_1 x8_1).f1)).f3), .slice A572_4 ((rd_T130 ((rd_T68 l0 ((rd_T125 x7_1 x8_1).f0)).f0) ((rd_T125 x7_1 x8_1).f1)).f4).length c572_4, .int .i64 ((rd_T130 ((rd_T68 l0 ((rd_T125 x7_1 x8_1).f0)).f0) ((rd_T125 x7_1 x8_1).f1)).f5), .slice A572_6 ((rd_T130 ((rd_T68 l0 ((rd_T125 x7_1 x8_1).f0)).f0) ((rd_T125 x7_1 x8_1).f1)).f6).length c572_6, .slice (some ad575) ((rd_T130 ((rd_T68 l0 ((rd_T125 x7_1 x8_1).f0)).f0) ((rd_T125 x7_1 x8_1).f1)).f7).length c572_7] 130 (0, 0)) (by (with_reducible repeat (first | refine blk_drewN ?_ _ | refine blk_drew ?_ | refine blk_alloc ?_ _)); exact BK573.out) hb)
                               have n4_ := Aside0.mk (below_step (by repeat (first | (with_reducible first | exact HB.out | apply below_alloc | apply pw_below_drewN | apply below_drew1 | refine below_set ?_ GE564.out | refine below_set ?_ GE573.out) | exact HB.out)) hb)
                               have n5_ := Aside0.mk (hbox)
                               have n6_ := Aside0.mk ((by rw [hg]; exact (below_size (by repeat (first | (with_reducible first | exact HB.out | apply below_alloc | apply pw_below_drewN | apply below_drew1 | refine below_set ?_ GE564.out | refine below_set ?_ GE573.out) | exact HB.out))) : w.heap.size ≤ gb578))
                               have n7_ := Aside0.mk ((by rw [hg]; exact (below_size (by repeat (first | (with_reducible first | exact HB.out | apply below_alloc | apply pw_below_drewN | apply below_drew1 | refine below_set ?_ GE564.out | refine below_set ?_ GE573.out) | exact HB.out))) : w.heap.size ≤ gb578))
                               have n8_ := Aside0.mk ((by rw [hg]; exact Nat.ne_of_lt (blk_lt (g := gb564) (o := .cells #[.int .i64 t562, .int .i64 t563] 125 (0, 0)) (by (with_reducible repeat (first | refine blk_drewN ?_ _ | refine blk_drew ?_ | refine blk_alloc ?_ _)); exact BK564.out)) : gb564 ≠ gb578))
                               have n9_ := Aside0.mk ((by rw [hg]; exact Nat.ne_of_gt (blk_lt (g := gb564) (o := .cells #[.int .i64 t562, .int .i64 t563] 125 (0, 0)) (by (with_reducible repeat (first | refine blk_drewN ?_ _ | refine blk_drew ?_ | refine blk_alloc ?_ _)); exact BK564.out)) : gb578 ≠ gb564))
                               have n10_ := Aside0.mk ((by rw [hg]; exact Nat.ne_of_lt (blk_lt (g := gb573) (o := .cells #[.string ((rd_T130 ((rd_T68 l0 ((rd_T125 x7_1 x8_1).f0)).f0) ((rd_T125 x7_1 x8_1).f1)).f0), .int .i64 ((rd_T130 ((rd_T68 l0 ((rd_T125 x7_1 x8_1).f0)).f0) ((rd_T125 x7_1 x8_1).f1)).f1), .int .i64 ((rd_T130 ((rd_T68 l0 ((rd_T125 x7_1 x8_1).f0)).f0) ((rd_T125 x7_1 x8_1).f1)).f2), .int .i64 ((rd_T130 ((rd_T68 l0 ((rd_T125 x7_1 x8_1).f0)).f0) ((rd_T125 x7_1 x8_1).f1)).f3), .slice A572_4 ((rd_T130 ((rd_T68 l0 ((rd_T125 x7_1 x8_1).f0)).f0) ((rd_T125 x7_1 x8_1).f1)).f4).length c572_4, .int .i64 ((rd_T130 ((rd_T68 l0 ((rd_T125 x7_1 x8_1).f0)).f0) ((rd_T125 x7_1 x8_1).f1)).f5), .slice A572_6 ((rd_T130 ((rd_T68 l0 ((rd_T125 x7_1 x8_1).f0)).f0) ((rd_T125 x7_1 x8_1).f1)).f6).length c572_6, .slice (some ad575) ((rd_T130 ((rd_T68 l0 ((rd_T125 x7_1 x8_1).f0)).f0) ((rd_T125 x7_1 x8_1).f1)).f7).length c572_7] 130 (0, 0)) (by (with_reducible repeat (first | refine blk_drewN ?_ _ | refine blk_drew ?_ | refine blk_alloc ?_ _)); exact BK573.out)) : gb573 ≠ gb578))
                               have n11_ := Aside0.mk ((by rw [hg]; exact Nat.ne_of_gt (blk_lt (g := gb573) (o := .cells #[.string ((rd_T130 ((rd_T68 l0 ((rd_T125 x7_1 x8_1).f0)).f0) ((rd_T125 x7_1 x8_1).f1)).f0), .int .i64 ((rd_T130 ((rd_T68 l0 ((rd_T125 x7_1 x8_1).f0)).f0) ((rd_T125 x7_1 x8_1).f1)).f1), .int .i64 ((rd_T130 ((rd_T68 l0 ((rd_T125 x7_1 x8_1).f0)).f0) ((rd_T125 x7_1 x8_1).f1)).f2), .int .i64 ((rd_T130 ((rd_T68 l0 ((rd_T125 x7_1 x8_1).f0)).f0) ((rd_T125 x7_1 x8_1).f1)).f3), .slice A572_4 ((rd_T130 ((rd_T68 l0 ((rd_T125 x7_1 x8_1).f0)).f0) ((rd_T125 x7_1 x8_1).f1)).f4).length c572_4, .int .i64 ((rd_T130 ((rd_T68 l0 ((rd_T125 x7_1 x8_1).f0)).f0) ((rd_T125 x7_1 x8_1).f1)).f5), .slice A572_6 ((rd_T130 ((rd_T68 l0 ((rd_T125 x7_1 x8_1).f0)).f0) ((rd_T125 x7_1 x8_1).f1)).f6).length c572_6, .slice (some ad575) ((rd_T130 ((rd_T68 l0 ((rd_T125 x7_1 x8_1).f0)).f0) ((rd_T125 x7_1 x8_1).f1)).f7).length c572_7] 130 (0, 0)) (by (with_reducible repeat (first | refine blk_drewN ?_ _ | refine blk_drew ?_ | refine blk_alloc ?_ _)); exact BK573.out)) : gb578 ≠ gb573))
                               clear HO_5
                               clear HO_7
                               clear BK564
                               clear BK573
                               clear HB
                               have HO_5 := n0_
                               have HO_7 := n1_
                               have BK564 := n2_
                               have BK573 := n3_
                               have HB := n4_
                               have BK578 := n5_
                               have GW578 := n6_
                               have GE578 := n7_
                               have NB564_578 := n8_
                               have NB578_564 := n9_
                               have NB573_578 := n10_
                               have NB578_573 := n11_
                               clear n0_ n1_ n2_ n3_ n4_ n5_ n6_ n7_ n8_ n9_ n10_ n11_
                               clear hb hbox hg
                               refine hK.out _ _ ⟨(blk_cell BK573.out 0).trans rfl, (blk_cell BK573.out 1).trans rfl, (blk_cell BK573.out 2).trans rfl, (blk_cell BK573.out 3).trans rfl, (blk_cell BK573.out 4).trans rfl, (blk_cell BK573.out 5).trans rfl, (blk_cell BK573.out 6).trans rfl, (blk_cell BK573.out 7).trans rfl, HS8_, HS9_, ((HB.out.cell (World.block_lt_of_cell? w _ hw575_0)).trans hw575_0), ((HB.out.cell (World.block_lt_of_cell? w _ hw575_1)).trans hw575_1), ((HB.out.cell (World.block_lt_of_cell? w _ hw575_2)).trans hw575_2)⟩ (fun hHeld => ?_)
                               clear hK K
                               refine norm_ (a' := ?_) ?_ ?_
                               rotate_left
                               · show Act.put _ (some 11) _ = _
                                 simp only [Act.put, List.setIfInBounds_toArray, List.set_cons_zero, List.set_cons_succ, i64_w, i32_w]
                                 rfl
                               refine one_ (i := 12) (N := some 69) #[true, true, true, true, true, true, true, true, true, true, true, true, true, true, false] rfl rfl (one_of HT_.out (by kernel_rfl)) (by decide) (fun K hK => ?_)
                               refine goes_ Try.func85 (by kernel_rfl) rfl #[.slice (some ad570) l0.length c0, .int .i64 ((rd_T125 x7_2 x8_1).f0), .string ((rd_T132 ((rd_T130 ((rd_T68 l0 ((rd_T125 x7_1 x8_1).f0)).f0) ((rd_T125 x7_1 x8_1).f1)).f7) x10_2).f2)] (by rfl) rfl rfl (by (try simp only [List.map_toArray, List.map_cons, List.map_nil]); first | done | rfl | (simp only [List.length_drop, List.length_take]; rfl)) ?_
                               with_reducible refine (spec_l20Of.calls k2 (fun k_ => k_ < w.heap.size) _ _ l0 ((rd_T125 x7_2 x8_1).f0) ((rd_T132 ((rd_T130 ((rd_T68 l0 ((rd_T125 x7_1 x8_1).f0)).f0) ((rd_T125 x7_1 x8_1).f1)).f7) x10_2).f2) t576 t577 _ ?side1 A36.out).mono ?_
                               (case side1 => exact Kd.V_mk HC0.out (Kd.F_below (Kd.C_F k68_heap HR0.out) (by repeat (first | (with_reducible first | exact HB.out | apply below_alloc | apply pw_below_drewN | apply below_drew1 | refine below_set ?_ GE564.out | refine below_set ?_ GE573.out | refine below_set ?_ GE578.out) | exact HB.out))))
                               rintro e w42 ⟨rfl, hb⟩
                               have HS8_ := (hb.cell (World.block_lt_of_cell? _ _ (hHeld.2.2.2.2.2.2.2.2.1))).trans (hHeld.2.2.2.2.2.2.2.2.1)
                               have HS9_ := (hb.cell (World.block_lt_of_cell? _ _ (hHeld.2.2.2.2.2.2.2.2.2.1))).trans (hHeld.2.2.2.2.2.2.2.2.2.1)
                               refine ⟨_, rfl, ?_⟩
                               have n0_ := Aside0.mk (Kd.R_below (by (with_reducible repeat (first | apply Kd.R_alloc | apply Kd.R_drewN | apply Kd.R_drew)); exact HO_5.out) hb)
                               have n1_ := Aside0.mk (Kd.R_below (by (with_reducible repeat (first | apply Kd.R_alloc | apply Kd.R_drewN | apply Kd.R_drew)); exact HO_7.out) hb)
                               have n2_ := Aside0.mk (blk_below (g := gb564) (o := .cells #[.int .i64 t562, .int .i64 t563] 125 (0, 0)) (by (with_reducible repeat (first | refine blk_drewN ?_ _ | refine blk_drew ?_ | refine blk_alloc ?_ _)); exact BK564.out) hb)
                               have n3_ := Aside0.mk (blk_below (g := gb573) (o := .cells #[.string ((rd_T130 ((rd_T68 l0 ((rd_T125 x7_1 x8_1).f0)).f0) ((rd_T125 x7_1 x8_1).f1)).f0), .int .i64 ((rd_T130 ((rd_T68 l0 ((rd_T125 x7_1 x8_1).f0)).f0) ((rd_T125 x7_1 x8_1).f1)).f1), .int .i64 ((rd_T130 ((rd_T68 l0 ((rd_T125 x7_1 x8_1).f0)).f0) ((rd_T125 x7_1 x8_1).f1)).f2), .int .i64 ((rd_T130 ((rd_T68 l0 ((rd_T125 x7_1 x8_1).f0)).f0) ((rd_T125 x7_1 x8_1).f1)).f3), .slice A572_4 ((rd_T130 ((rd_T68 l0 ((rd_T125 x7_1 x8_1).f0)).f0) ((rd_T125 x7_1 x8_1).f1)).f4).length c572_4, .int .i64 ((rd_T130 ((rd_T68 l0 ((rd_T125 x7_1 x8_1).f0)).f0) ((rd_T125 x7_1 x8_1).f1)).f5), .slice A572_6 ((rd_T130 ((rd_T68 l0 ((rd_T125 x7_1 x8_1).f0)).f0) ((rd_T125 x7_1 x8_1).f1)).f6).length c572_6, .slice (some ad575) ((rd_T130 ((rd_T68 l0 ((rd_T125 x7_1 x8_1).f0)).f0) ((rd_T125 x7_1 x8_1).f1)).f7).length c572_7] 130 (0, 0)) (by (with_reducible repeat (first | refine blk_drewN ?_ _ | refine blk_drew ?_ | refine blk_alloc ?_ _)); exact BK573.out) hb)
                               have n4_ := Aside0.mk (blk_below (g := gb578) (o := .cells #[.int .i64 0, .int .i64 0] 125 (0, 0)) (by (with_reducible repeat (first | refine blk_drewN ?_ _ | refine blk_drew ?_ | refine blk_alloc ?_ _)); exact BK578.out) hb)
                               have n5_ := Aside0.mk (below_step (by repeat (first | (with_reducible first | exact HB.out | apply below_alloc | apply pw_below_drewN | apply below_drew1 | refine below_set ?_ GE564.out | refine below_set ?_ GE573.out | refine below_set ?_ GE578.out) | exact HB.out)) hb)
                               clear HO_5
                               clear HO_7
                               clear BK564
                               clear BK573
                               clear BK578
                               clear HB
                               have HO_5 := n0_
                               have HO_7 := n1_
                               have BK564 := n2_
                               have BK573 := n3_
                               have BK578 := n4_
                               have HB := n5_
                               clear n0_ n1_ n2_ n3_ n4_ n5_
                               (try clear hb)
                               (try clear hb2)
                               (try clear hk)
                               (try clear hi)
                               refine hK.out _ _ ⟨(blk_cell BK573.out 0).trans rfl, (blk_cell BK573.out 1).trans rfl, (blk_cell BK573.out 2).trans rfl, (blk_cell BK573.out 3).trans rfl, (blk_cell BK573.out 4).trans rfl, (blk_cell BK573.out 5).trans rfl, (blk_cell BK573.out 6).trans rfl, (blk_cell BK573.out 7).trans rfl, HS8_, HS9_, ((HB.out.cell (World.block_lt_of_cell? w _ hw575_0)).trans hw575_0), ((HB.out.cell (World.block_lt_of_cell? w _ hw575_1)).trans hw575_1), ((HB.out.cell (World.block_lt_of_cell? w _ hw575_2)).trans hw575_2)⟩ (fun hHeld => ?_)
                               clear hK K
                               refine norm_ (a' := ?_) ?_ ?_
                               rotate_left
                               · show Act.put _ (some 69) _ = _
                                 simp only [Act.put, List.setIfInBounds_toArray, List.set_cons_zero, List.set_cons_succ, i64_w, i32_w]
                                 rfl
                               exact norm_ (by simp only [putAll, Act.put, List.setIfInBounds_toArray, List.set_cons_zero, List.set_cons_succ]) (hCont (gb578) _ ⟨hHeld, (by (with_reducible repeat (first | apply Kd.R_alloc | apply Kd.R_drewN | apply Kd.R_drew)); exact Kd.R_mono HO_5.out (fun _ hk => ⟨hk.1.1, ⟨hk.1.2, hk.2⟩⟩)), (by (with_reducible repeat (first | apply Kd.R_alloc | apply Kd.R_drewN | apply Kd.R_drew)); exact Kd.R_mono HO_7.out (fun _ hk => ⟨hk.1.1, ⟨hk.1.2, hk.2⟩⟩)), (by (with_reducible repeat (first | refine blk_drewN ?_ _ | refine blk_drew ?_ | refine blk_alloc ?_ _)); exact BK564.out), (by (with_reducible repeat (first | refine blk_drewN ?_ _ | refine blk_drew ?_ | refine blk_alloc ?_ _)); exact BK573.out), (by (with_reducible repeat (first | refine blk_drewN ?_ _ | refine blk_drew ?_ | refine blk_alloc ?_ _)); exact BK578.out), GW578.out, GE578.out, NB564_578.out, NB578_564.out, NB573_578.out, NB578_573.out, (by repeat (first | (with_reducible first | exact HB.out | apply below_alloc | apply pw_below_drewN | apply below_drew1 | refine below_set ?_ GE564.out | refine below_set ?_ GE573.out | refine below_set ?_ GE578.out) | exact HB.out))⟩)
                           rintro gb578 w43 ⟨hS_, h0_, h1_, h2_, h3_, h4_, h5_, h6_, h7_, h8_, h9_, h10_, h11_⟩
                           have n0_ : Aside0 (Kd.R k125 125 w43 w.heap.size (fun k_ => some k_ ≠ (.slice (some ad574) x7_2.length co40 : Value).ownBlock ∧ k_ ≠ gb564 ∧ k_ ≠ gb578) v560 y559) := ⟨h0_⟩
                           have n1_ : Aside0 (Kd.R k125 125 w43 w.heap.size (fun k_ => some k_ ≠ (v560 : Value).ownBlock ∧ k_ ≠ gb564 ∧ k_ ≠ gb578) (.slice (some ad574) x7_2.length co40) x7_2) := ⟨h1_⟩
                           have n2_ : Aside0 (w43.heap[gb564]? = some (.cells #[.int .i64 t562, .int .i64 t563] 125 (0, 0))) := ⟨h2_⟩
                           have n3_ : Aside0 (w43.heap[gb573]? = some (.cells #[.string ((rd_T130 ((rd_T68 l0 ((rd_T125 x7_1 x8_1).f0)).f0) ((rd_T125 x7_1 x8_1).f1)).f0), .int .i64 ((rd_T130 ((rd_T68 l0 ((rd_T125 x7_1 x8_1).f0)).f0) ((rd_T125 x7_1 x8_1).f1)).f1), .int .i64 ((rd_T130 ((rd_T68 l0 ((rd_T125 x7_1 x8_1).f0)).f0) ((rd_T125 x7_1 x8_1).f1)).f2), .int .i64 ((rd_T130 ((rd_T68 l0 ((rd_T125 x7_1 x8_1).f0)).f0) ((rd_T125 x7_1 x8_1).f1)).f3), .slice A572_4 ((rd_T130 ((rd_T68 l0 ((rd_T125 x7_1 x8_1).f0)).f0) ((rd_T125 x7_1 x8_1).f1)).f4).length c572_4, .int .i64 ((rd_T130 ((rd_T68 l0 ((rd_T125 x7_1 x8_1).f0)).f0) ((rd_T125 x7_1 x8_1).f1)).f5), .slice A572_6 ((rd_T130 ((rd_T68 l0 ((rd_T125 x7_1 x8_1).f0)).f0) ((rd_T125 x7_1 x8_1).f1)).f6).length c572_6, .slice (some ad575) ((rd_T130 ((rd_T68 l0 ((rd_T125 x7_1 x8_1).f0)).f0) ((rd_T125 x7_1 x8_1).f1)).f7).length c572_7] 130 (0, 0))) := ⟨h3_⟩
                           have n4_ : Aside0 (w43.heap[gb578]? = some (.cells #[.int .i64 0, .int .i64 0] 125 (0, 0))) := ⟨h4_⟩
                           have n5_ : Aside0 (w.heap.size ≤ gb578) := ⟨h5_⟩
                           have n6_ : Aside0 (w.heap.size ≤ gb578) := ⟨h6_⟩
                           have n7_ : Aside0 (gb564 ≠ gb578) := ⟨h7_⟩
                           have n8_ : Aside0 (gb578 ≠ gb564) := ⟨h8_⟩
                           have n9_ : Aside0 (gb573 ≠ gb578) := ⟨h9_⟩
                           have n10_ : Aside0 (gb578 ≠ gb573) := ⟨h10_⟩
                           have n11_ : Aside0 (Below w.heap.size w w43) := ⟨h11_⟩
                           clear HO_5
                           clear HO_7
                           clear BK564
                           clear BK573
                           clear HB
                           clear h0_ h1_ h2_ h3_ h4_ h5_ h6_ h7_ h8_ h9_ h10_ h11_
                           have HO_5 := n0_
                           have HO_7 := n1_
                           have BK564 := n2_
                           have BK573 := n3_
                           have BK578 := n4_
                           have GW578 := n5_
                           have GE578 := n6_
                           have NB564_578 := n7_
                           have NB578_564 := n8_
                           have NB573_578 := n9_
                           have NB578_573 := n10_
                           have HB := n11_
                           clear n0_ n1_ n2_ n3_ n4_ n5_ n6_ n7_ n8_ n9_ n10_ n11_
                           have hHeld : w43.cell? ⟨gb573, 0, none⟩ = some (.string ((rd_T130 ((rd_T68 l0 ((rd_T125 x7_1 x8_1).f0)).f0) ((rd_T125 x7_1 x8_1).f1)).f0)) ∧ w43.cell? ⟨gb573, 1, none⟩ = some (.int .i64 ((rd_T130 ((rd_T68 l0 ((rd_T125 x7_1 x8_1).f0)).f0) ((rd_T125 x7_1 x8_1).f1)).f1)) ∧ w43.cell? ⟨gb573, 2, none⟩ = some (.int .i64 ((rd_T130 ((rd_T68 l0 ((rd_T125 x7_1 x8_1).f0)).f0) ((rd_T125 x7_1 x8_1).f1)).f2)) ∧ w43.cell? ⟨gb573, 3, none⟩ = some (.int .i64 ((rd_T130 ((rd_T68 l0 ((rd_T125 x7_1 x8_1).f0)).f0) ((rd_T125 x7_1 x8_1).f1)).f3)) ∧ w43.cell? ⟨gb573, 4, none⟩ = some (.slice A572_4 ((rd_T130 ((rd_T68 l0 ((rd_T125 x7_1 x8_1).f0)).f0) ((rd_T125 x7_1 x8_1).f1)).f4).length c572_4) ∧ w43.cell? ⟨gb573, 5, none⟩ = some (.int .i64 ((rd_T130 ((rd_T68 l0 ((rd_T125 x7_1 x8_1).f0)).f0) ((rd_T125 x7_1 x8_1).f1)).f5)) ∧ w43.cell? ⟨gb573, 6, none⟩ = some (.slice A572_6 ((rd_T130 ((rd_T68 l0 ((rd_T125 x7_1 x8_1).f0)).f0) ((rd_T125 x7_1 x8_1).f1)).f6).length c572_6) ∧ w43.cell? ⟨gb573, 7, none⟩ = some (.slice (some ad575) ((rd_T130 ((rd_T68 l0 ((rd_T125 x7_1 x8_1).f0)).f0) ((rd_T125 x7_1 x8_1).f1)).f7).length c572_7) ∧ w43.cell? (ad574.add ((x8_1).toNat * 2)) = some (.int .i64 ((rd_T125 x7_2 x8_1).f0)) ∧ w43.cell? ⟨(ad574.add ((x8_1).toNat * 2)).block, (ad574.add ((x8_1).toNat * 2)).off + 1, none⟩ = some (.int .i64 ((rd_T125 x7_2 x8_1).f1)) ∧ w43.cell? (ad575.add ((x10_2).toNat * 3)) = some (.int .i64 ((rd_T132 ((rd_T130 ((rd_T68 l0 ((rd_T125 x7_1 x8_1).f0)).f0) ((rd_T125 x7_1 x8_1).f1)).f7) x10_2).f0)) ∧ w43.cell? ⟨(ad575.add ((x10_2).toNat * 3)).block, (ad575.add ((x10_2).toNat * 3)).off + 1, none⟩ = some (.int .i64 ((rd_T132 ((rd_T130 ((rd_T68 l0 ((rd_T125 x7_1 x8_1).f0)).f0) ((rd_T125 x7_1 x8_1).f1)).f7) x10_2).f1)) ∧ w43.cell? ⟨(ad575.add ((x10_2).toNat * 3)).block, (ad575.add ((x10_2).toNat * 3)).off + 2, none⟩ = some (.string ((rd_T132 ((rd_T130 ((rd_T68 l0 ((rd_T125 x7_1 x8_1).f0)).f0) ((rd_T125 x7_1 x8_1).f1)).f7) x10_2).f2)) := hS_
                           refine norm_ (a' := ?_) ?_ ?_
                           rotate_left
                           · simp only [putAll, Act.put, List.setIfInBounds_toArray, List.set_cons_zero, List.set_cons_succ]
                             rfl
                           refine one_ (i := 14) (N := none) #[true, true, true, true, true, true, true, true, true, true, true, true, true, true, true] rfl rfl (one_of HT_.out (by kernel_rfl)) (by decide) (fun K hK => ?_)
                           have hs44 : w43.cell? ⟨gb578, 0, none⟩ = some (.int .i64 0) := (blk_cell BK578.out 0).trans rfl
                           have hfs44 := blk_frozen BK578.out 0
                           have hns44_0 := NB564_578.out
                           have hns44_1 := NB573_578.out
                           have hms44_0 := NB578_564.out
                           have hms44_1 := NB578_573.out
                           have hs45 : w43.cell? ⟨gb578, 1, none⟩ = some (.int .i64 0) := (blk_cell BK578.out 1).trans rfl
                           have hfs45 := blk_frozen BK578.out 1
                           have hns45_0 := NB564_578.out
                           have hns45_1 := NB573_578.out
                           have hms45_0 := NB578_564.out
                           have hms45_1 := NB578_573.out
                           refine skip_ (w1 := ?_) (by rfl) rfl ?_ ?_
                           rotate_left
                           · go_simp
                             rfl
                           refine hK.out _ _ ⟨((cell_far (p := ⟨gb578, _, none⟩) NB573_578.out _).trans (((cell_far (p := ⟨gb578, _, none⟩) NB573_578.out _).trans (hHeld.1)))), ((cell_far (p := ⟨gb578, _, none⟩) NB573_578.out _).trans (((cell_far (p := ⟨gb578, _, none⟩) NB573_578.out _).trans (hHeld.2.1)))), ((cell_far (p := ⟨gb578, _, none⟩) NB573_578.out _).trans (((cell_far (p := ⟨gb578, _, none⟩) NB573_578.out _).trans (hHeld.2.2.1)))), ((cell_far (p := ⟨gb578, _, none⟩) NB573_578.out _).trans (((cell_far (p := ⟨gb578, _, none⟩) NB573_578.out _).trans (hHeld.2.2.2.1)))), ((cell_far (p := ⟨gb578, _, none⟩) NB573_578.out _).trans (((cell_far (p := ⟨gb578, _, none⟩) NB573_578.out _).trans (hHeld.2.2.2.2.1)))), ((cell_far (p := ⟨gb578, _, none⟩) NB573_578.out _).trans (((cell_far (p := ⟨gb578, _, none⟩) NB573_578.out _).trans (hHeld.2.2.2.2.2.1)))), ((cell_far (p := ⟨gb578, _, none⟩) NB573_578.out _).trans (((cell_far (p := ⟨gb578, _, none⟩) NB573_578.out _).trans (hHeld.2.2.2.2.2.2.1)))), ((cell_far (p := ⟨gb578, _, none⟩) NB573_578.out _).trans (((cell_far (p := ⟨gb578, _, none⟩) NB573_578.out _).trans (hHeld.2.2.2.2.2.2.2.1)))), ((cell_far (p := ⟨gb578, _, none⟩) (by first | exact Kd.own_blk (Kd.R_away HO_7.out (fun _ hk => hk.2.2)) | (rw [add_block]; exact Kd.own_blk (Kd.R_away HO_7.out (fun _ hk => hk.2.2))) | (show (Addr.add _ _).block ≠ _; rw [add_block]; exact Kd.own_blk (Kd.R_away HO_7.out (fun _ hk => hk.2.2))) | (dsimp only; exact Kd.own_blk (Kd.R_away HO_7.out (fun _ hk => hk.2.2)))) _).trans (((cell_far (p := ⟨gb578, _, none⟩) (by first | exact Kd.own_blk (Kd.R_away HO_7.out (fun _ hk => hk.2.2)) | (rw [add_block]; exact Kd.own_blk (Kd.R_away HO_7.out (fun _ hk => hk.2.2))) | (show (Addr.add _ _).block ≠ _; rw [add_block]; exact Kd.own_blk (Kd.R_away HO_7.out (fun _ hk => hk.2.2))) | (dsimp only; exact Kd.own_blk (Kd.R_away HO_7.out (fun _ hk => hk.2.2)))) _).trans (hHeld.2.2.2.2.2.2.2.2.1)))), ((cell_far (p := ⟨gb578, _, none⟩) (by first | exact Kd.own_blk (Kd.R_away HO_7.out (fun _ hk => hk.2.2)) | (rw [add_block]; exact Kd.own_blk (Kd.R_away HO_7.out (fun _ hk => hk.2.2))) | (show (Addr.add _ _).block ≠ _; rw [add_block]; exact Kd.own_blk (Kd.R_away HO_7.out (fun _ hk => hk.2.2))) | (dsimp only; exact Kd.own_blk (Kd.R_away HO_7.out (fun _ hk => hk.2.2)))) _).trans (((cell_far (p := ⟨gb578, _, none⟩) (by first | exact Kd.own_blk (Kd.R_away HO_7.out (fun _ hk => hk.2.2)) | (rw [add_block]; exact Kd.own_blk (Kd.R_away HO_7.out (fun _ hk => hk.2.2))) | (show (Addr.add _ _).block ≠ _; rw [add_block]; exact Kd.own_blk (Kd.R_away HO_7.out (fun _ hk => hk.2.2))) | (dsimp only; exact Kd.own_blk (Kd.R_away HO_7.out (fun _ hk => hk.2.2)))) _).trans (hHeld.2.2.2.2.2.2.2.2.2.1)))), ((cell_far (p := ⟨gb578, _, none⟩) (by first | exact Nat.ne_of_lt (Nat.lt_of_lt_of_le (by have := World.block_lt_of_cell? _ _ hw575_0; first | rwa [add_block] at this | exact this) GW578.out) | (rw [add_block]; exact Nat.ne_of_lt (Nat.lt_of_lt_of_le (by have := World.block_lt_of_cell? _ _ hw575_0; first | rwa [add_block] at this | exact this) GW578.out)) | (show (Addr.add _ _).block ≠ _; rw [add_block]; exact Nat.ne_of_lt (Nat.lt_of_lt_of_le (by have := World.block_lt_of_cell? _ _ hw575_0; first | rwa [add_block] at this | exact this) GW578.out)) | (dsimp only; exact Nat.ne_of_lt (Nat.lt_of_lt_of_le (by have := World.block_lt_of_cell? _ _ hw575_0; first | rwa [add_block] at this | exact this) GW578.out))) _).trans (((cell_far (p := ⟨gb578, _, none⟩) (by first | exact Nat.ne_of_lt (Nat.lt_of_lt_of_le (by have := World.block_lt_of_cell? _ _ hw575_0; first | rwa [add_block] at this | exact this) GW578.out) | (rw [add_block]; exact Nat.ne_of_lt (Nat.lt_of_lt_of_le (by have := World.block_lt_of_cell? _ _ hw575_0; first | rwa [add_block] at this | exact this) GW578.out)) | (show (Addr.add _ _).block ≠ _; rw [add_block]; exact Nat.ne_of_lt (Nat.lt_of_lt_of_le (by have := World.block_lt_of_cell? _ _ hw575_0; first | rwa [add_block] at this | exact this) GW578.out)) | (dsimp only; exact Nat.ne_of_lt (Nat.lt_of_lt_of_le (by have := World.block_lt_of_cell? _ _ hw575_0; first | rwa [add_block] at this | exact this) GW578.out))) _).trans (hHeld.2.2.2.2.2.2.2.2.2.2.1)))), ((cell_far (p := ⟨gb578, _, none⟩) (by first | exact Nat.ne_of_lt (Nat.lt_of_lt_of_le (by have := World.block_lt_of_cell? _ _ hw575_1; first | rwa [add_block] at this | exact this) GW578.out) | (rw [add_block]; exact Nat.ne_of_lt (Nat.lt_of_lt_of_le (by have := World.block_lt_of_cell? _ _ hw575_1; first | rwa [add_block] at this | exact this) GW578.out)) | (show (Addr.add _ _).block ≠ _; rw [add_block]; exact Nat.ne_of_lt (Nat.lt_of_lt_of_le (by have := World.block_lt_of_cell? _ _ hw575_1; first | rwa [add_block] at this | exact this) GW578.out)) | (dsimp only; exact Nat.ne_of_lt (Nat.lt_of_lt_of_le (by have := World.block_lt_of_cell? _ _ hw575_1; first | rwa [add_block] at this | exact this) GW578.out))) _).trans (((cell_far (p := ⟨gb578, _, none⟩) (by first | exact Nat.ne_of_lt (Nat.lt_of_lt_of_le (by have := World.block_lt_of_cell? _ _ hw575_1; first | rwa [add_block] at this | exact this) GW578.out) | (rw [add_block]; exact Nat.ne_of_lt (Nat.lt_of_lt_of_le (by have := World.block_lt_of_cell? _ _ hw575_1; first | rwa [add_block] at this | exact this) GW578.out)) | (show (Addr.add _ _).block ≠ _; rw [add_block]; exact Nat.ne_of_lt (Nat.lt_of_lt_of_le (by have := World.block_lt_of_cell? _ _ hw575_1; first | rwa [add_block] at this | exact this) GW578.out)) | (dsimp only; exact Nat.ne_of_lt (Nat.lt_of_lt_of_le (by have := World.block_lt_of_cell? _ _ hw575_1; first | rwa [add_block] at this | exact this) GW578.out))) _).trans (hHeld.2.2.2.2.2.2.2.2.2.2.2.1)))), ((cell_far (p := ⟨gb578, _, none⟩) (by first | exact Nat.ne_of_lt (Nat.lt_of_lt_of_le (by have := World.block_lt_of_cell? _ _ hw575_2; first | rwa [add_block] at this | exact this) GW578.out) | (rw [add_block]; exact Nat.ne_of_lt (Nat.lt_of_lt_of_le (by have := World.block_lt_of_cell? _ _ hw575_2; first | rwa [add_block] at this | exact this) GW578.out)) | (show (Addr.add _ _).block ≠ _; rw [add_block]; exact Nat.ne_of_lt (Nat.lt_of_lt_of_le (by have := World.block_lt_of_cell? _ _ hw575_2; first | rwa [add_block] at this | exact this) GW578.out)) | (dsimp only; exact Nat.ne_of_lt (Nat.lt_of_lt_of_le (by have := World.block_lt_of_cell? _ _ hw575_2; first | rwa [add_block] at this | exact this) GW578.out))) _).trans (((cell_far (p := ⟨gb578, _, none⟩) (by first | exact Nat.ne_of_lt (Nat.lt_of_lt_of_le (by have := World.block_lt_of_cell? _ _ hw575_2; first | rwa [add_block] at this | exact this) GW578.out) | (rw [add_block]; exact Nat.ne_of_lt (Nat.lt_of_lt_of_le (by have := World.block_lt_of_cell? _ _ hw575_2; first | rwa [add_block] at this | exact this) GW578.out)) | (show (Addr.add _ _).block ≠ _; rw [add_block]; exact Nat.ne_of_lt (Nat.lt_of_lt_of_le (by have := World.block_lt_of_cell? _ _ hw575_2; first | rwa [add_block] at this | exact this) GW578.out)) | (dsimp only; exact Nat.ne_of_lt (Nat.lt_of_lt_of_le (by have := World.block_lt_of_cell? _ _ hw575_2; first | rwa [add_block] at this | exact this) GW578.out))) _).trans (hHeld.2.2.2.2.2.2.2.2.2.2.2.2))))⟩ (fun hHeld => ?_)
                           clear hK K
                           refine done_ (done_of HT_.out (by kernel_rfl)) ?_
                           have hnb46 := NB578_564.out
                           have hnc46 := NB564_578.out
                           have hnb47 := NB578_573.out
                           have hnc47 := NB573_578.out
                           have hcz48_0 : w43.cell? ⟨gb578, 0, none⟩ = some (.int .i64 0) := (blk_cell BK578.out 0).trans rfl
                           have hcz48_1 : w43.cell? ⟨gb578, 1, none⟩ = some (.int .i64 0) := (blk_cell BK578.out 1).trans rfl
                           have hfz48_0 := blk_frozen BK578.out 0
                           have hfz48_1 := blk_frozen BK578.out 1
                           try go_wp2
                           go_loopg [12, 13] k2 (fun kq v12 v13 w' => ∃ (x12_3 : Bool) (x13_3 : Int), v12 = .bool x12_3 ∧ v13 = .int .i64 x13_3 ∧ Aside0 (spec_Needed.l2 kq l0 y559 x7_2 x8_1 x10_2 x12_3 x13_3 ((rd_T130 ((rd_T68 l0 ((rd_T125 x7_1 x8_1).f0)).f0) ((rd_T125 x7_1 x8_1).f1)).f0) ((rd_T130 ((rd_T68 l0 ((rd_T125 x7_1 x8_1).f0)).f0) ((rd_T125 x7_1 x8_1).f1)).f1) ((rd_T130 ((rd_T68 l0 ((rd_T125 x7_1 x8_1).f0)).f0) ((rd_T125 x7_1 x8_1).f1)).f2) ((rd_T130 ((rd_T68 l0 ((rd_T125 x7_1 x8_1).f0)).f0) ((rd_T125 x7_1 x8_1).f1)).f3) ((rd_T130 ((rd_T68 l0 ((rd_T125 x7_1 x8_1).f0)).f0) ((rd_T125 x7_1 x8_1).f1)).f4) ((rd_T130 ((rd_T68 l0 ((rd_T125 x7_1 x8_1).f0)).f0) ((rd_T125 x7_1 x8_1).f1)).f5) ((rd_T130 ((rd_T68 l0 ((rd_T125 x7_1 x8_1).f0)).f0) ((rd_T125 x7_1 x8_1).f1)).f6) ((rd_T130 ((rd_T68 l0 ((rd_T125 x7_1 x8_1).f0)).f0) ((rd_T125 x7_1 x8_1).f1)).f7) t576 t577 = some r) ∧ Aside0 (kq ≤ k2) ∧ Aside0 (Kd.R k125 125 w' w.heap.size (fun k_ => some k_ ≠ ((.slice (some ad574) x7_2.length co40) : Value).ownBlock ∧ k_ ≠ gb564 ∧ k_ ≠ gb578) v560 y559) ∧ Aside0 (Kd.R k125 125 w' w.heap.size (fun k_ => some k_ ≠ (v560 : Value).ownBlock ∧ k_ ≠ gb564 ∧ k_ ≠ gb578) (.slice (some ad574) x7_2.length co40) x7_2) ∧ Aside0 (w'.heap[gb564]? = some (.cells #[.int .i64 t562, .int .i64 t563] 125 (0, 0))) ∧ Aside0 (w'.heap[gb573]? = some (.cells #[.string ((rd_T130 ((rd_T68 l0 ((rd_T125 x7_1 x8_1).f0)).f0) ((rd_T125 x7_1 x8_1).f1)).f0), .int .i64 ((rd_T130 ((rd_T68 l0 ((rd_T125 x7_1 x8_1).f0)).f0) ((rd_T125 x7_1 x8_1).f1)).f1), .int .i64 ((rd_T130 ((rd_T68 l0 ((rd_T125 x7_1 x8_1).f0)).f0) ((rd_T125 x7_1 x8_1).f1)).f2), .int .i64 ((rd_T130 ((rd_T68 l0 ((rd_T125 x7_1 x8_1).f0)).f0) ((rd_T125 x7_1 x8_1).f1)).f3), (.slice A572_4 ((rd_T130 ((rd_T68 l0 ((rd_T125 x7_1 x8_1).f0)).f0) ((rd_T125 x7_1 x8_1).f1)).f4).length c572_4), .int .i64 ((rd_T130 ((rd_T68 l0 ((rd_T125 x7_1 x8_1).f0)).f0) ((rd_T125 x7_1 x8_1).f1)).f5), (.slice A572_6 ((rd_T130 ((rd_T68 l0 ((rd_T125 x7_1 x8_1).f0)).f0) ((rd_T125 x7_1 x8_1).f1)).f6).length c572_6), (.slice (some ad575) ((rd_T130 ((rd_T68 l0 ((rd_T125 x7_1 x8_1).f0)).f0) ((rd_T125 x7_1 x8_1).f1)).f7).length c572_7)] 130 (0, 0))) ∧ Aside0 (w'.heap[gb578]? = some (.cells #[.int .i64 t576, .int .i64 t577] 125 (0, 0))) ∧ Aside0 (Below w.heap.size w w'))
                           case atStart => exact ⟨(decide (t576 < 0)), (0), (by first | rfl | (simp; done) | (simp [*]; done)), (by first | rfl | (simp; done) | (simp [*]; done)), H', ⟨Nat.le_refl _⟩, ⟨by (with_reducible repeat (first | apply Kd.R_alloc | apply Kd.R_drewN | apply Kd.R_drew)); exact Kd.R_mono (Kd.R_far (p := ⟨gb578, 1, none⟩) (Kd.R_far (p := ⟨gb578, 0, none⟩) (Kd.R_mono HO_5.out (fun k_ hk => (⟨hk, hk.2.2⟩ : _ ∧ k_ ≠ gb578))) (fun _ hk => hk.2) (.int .i64 t576)) (fun _ hk => hk.2) (.int .i64 t577)) (fun _ hk => ⟨hk.1.1, ⟨hk.1.2.1, hk.1.2.2⟩⟩)⟩, ⟨by (with_reducible repeat (first | apply Kd.R_alloc | apply Kd.R_drewN | apply Kd.R_drew)); exact Kd.R_mono (Kd.R_far (p := ⟨gb578, 1, none⟩) (Kd.R_far (p := ⟨gb578, 0, none⟩) (Kd.R_mono HO_7.out (fun k_ hk => (⟨hk, hk.2.2⟩ : _ ∧ k_ ≠ gb578))) (fun _ hk => hk.2) (.int .i64 t576)) (fun _ hk => hk.2) (.int .i64 t577)) (fun _ hk => ⟨hk.1.1, ⟨hk.1.2.1, hk.1.2.2⟩⟩)⟩, ⟨by (with_reducible repeat (first | refine blk_drewN ?_ _ | refine blk_drew ?_ | refine blk_alloc ?_ _)); refine blk_far ?_ NB564_578.out _; (with_reducible repeat (first | refine blk_drewN ?_ _ | refine blk_drew ?_ | refine blk_alloc ?_ _)); refine blk_far ?_ NB564_578.out _; (with_reducible repeat (first | refine blk_drewN ?_ _ | refine blk_drew ?_ | refine blk_alloc ?_ _)); exact BK564.out⟩, ⟨by (with_reducible repeat (first | refine blk_drewN ?_ _ | refine blk_drew ?_ | refine blk_alloc ?_ _)); refine blk_far ?_ NB573_578.out _; (with_reducible repeat (first | refine blk_drewN ?_ _ | refine blk_drew ?_ | refine blk_alloc ?_ _)); refine blk_far ?_ NB573_578.out _; (with_reducible repeat (first | refine blk_drewN ?_ _ | refine blk_drew ?_ | refine blk_alloc ?_ _)); exact BK573.out⟩, ⟨by (with_reducible repeat (first | refine blk_drewN ?_ _ | refine blk_drew ?_ | refine blk_alloc ?_ _)); refine blk_put (cs := #[.int .i64 t576, .int .i64 0]) ?_ 1 _ rfl; (with_reducible repeat (first | refine blk_drewN ?_ _ | refine blk_drew ?_ | refine blk_alloc ?_ _)); refine blk_put (cs := #[.int .i64 0, .int .i64 0]) ?_ 0 _ rfl; (with_reducible repeat (first | refine blk_drewN ?_ _ | refine blk_drew ?_ | refine blk_alloc ?_ _)); exact BK578.out⟩, ⟨by repeat (first | (with_reducible first | exact HB.out | apply below_alloc | apply pw_below_drewN | apply below_drew1 | refine below_set ?_ GE564.out | refine below_set ?_ GE573.out | refine below_set ?_ GE578.out) | exact HB.out)⟩⟩
                           case round =>
                            clear H'
                            try clear c1
                            try clear c2
                            try clear p2
                            try clear c3
                            try clear c4
                            try clear c5
                            try clear p5
                            try clear q5
                            try clear hx5
                            try clear c8
                            try clear c15
                            try clear c15b0
                            try clear c16
                            try clear c16b0
                            try clear c17
                            try clear c17b0
                            try clear c18
                            try clear c18b0
                            try clear c19
                            try clear c19b0
                            try clear c20
                            try clear c20b0
                            try clear c32
                            try clear c32b0
                            try clear c33
                            try clear c33b0
                            try clear c34
                            try clear c34b0
                            try clear c35
                            try clear c35b0
                            try clear c37
                            try clear c46
                            try clear c47
                            try clear hcz10_0
                            try clear hcz10_1
                            try clear hcz12_0
                            try clear hcz12_1
                            try clear hcz38_0
                            try clear hcz38_1
                            try clear hcz38_2
                            try clear hcz38_3
                            try clear hcz38_4
                            try clear hcz38_5
                            try clear hcz38_6
                            try clear hcz38_7
                            try clear hcz48_0
                            try clear hcz48_1
                            try clear hfz10_0
                            try clear hfz10_1
                            try clear hfz12_0
                            try clear hfz12_1
                            try clear hfz38_0
                            try clear hfz38_1
                            try clear hfz38_2
                            try clear hfz38_3
                            try clear hfz38_4
                            try clear hfz38_5
                            try clear hfz38_6
                            try clear hfz38_7
                            try clear hfz48_0
                            try clear hfz48_1
                            try clear hx569_0
                            try clear hx569_1
                            try clear hx570_0
                            try clear hx571_0
                            try clear hx571_1
                            try clear hx572_0
                            try clear hx572_1
                            try clear hx572_2
                            try clear hx572_3
                            try clear hx572_4
                            try clear hx572_5
                            try clear hx572_6
                            try clear hx572_7
                            try clear hx574_0
                            try clear hx574_1
                            try clear hx575_0
                            try clear hx575_1
                            try clear hx575_2
                            try clear p2
                            try clear p5
                            try clear p569
                            try clear p570
                            try clear p571
                            try clear p572
                            try clear p574
                            try clear p575
                            try clear q5
                            try clear q569
                            try clear q570
                            try clear q571
                            try clear q572
                            try clear q574
                            try clear q575
                            obtain ⟨x12_3, x13_3, rfl, rfl, HA, HK3, HO_5, HO_7, BK564, BK573, BK578, HB⟩ := hrel
                            cases gk with
                            | zero => exact absurd HA.out (by simp [spec_Needed.l2])
                            | succ k3 =>
                             have H := HA.out
                             clear HA
                             simp only [spec_Needed.l2] at H
                             by_cases c49 : x13_3 < (x7_2.length : Int)
                             · rw [if_pos c49] at H
                               have c49b0 : decide (x13_3 < (x7_2.length : Int)) = true := decide_eq_true c49
                               clear c49
                               by_cases c50 : x12_3 = true
                               · subst c50
                                 have H1 : (spec_Needed.l2 k3 l0 y559 x7_2 x8_1 x10_2 true (wrap64 (x13_3 + 1)) ((rd_T130 ((rd_T68 l0 ((rd_T125 x7_1 x8_1).f0)).f0) ((rd_T125 x7_1 x8_1).f1)).f0) ((rd_T130 ((rd_T68 l0 ((rd_T125 x7_1 x8_1).f0)).f0) ((rd_T125 x7_1 x8_1).f1)).f1) ((rd_T130 ((rd_T68 l0 ((rd_T125 x7_1 x8_1).f0)).f0) ((rd_T125 x7_1 x8_1).f1)).f2) ((rd_T130 ((rd_T68 l0 ((rd_T125 x7_1 x8_1).f0)).f0) ((rd_T125 x7_1 x8_1).f1)).f3) ((rd_T130 ((rd_T68 l0 ((rd_T125 x7_1 x8_1).f0)).f0) ((rd_T125 x7_1 x8_1).f1)).f4) ((rd_T130 ((rd_T68 l0 ((rd_T125 x7_1 x8_1).f0)).f0) ((rd_T125 x7_1 x8_1).f1)).f5) ((rd_T130 ((rd_T68 l0 ((rd_T125 x7_1 x8_1).f0)).f0) ((rd_T125 x7_1 x8_1).f1)).f6) ((rd_T130 ((rd_T68 l0 ((rd_T125 x7_1 x8_1).f0)).f0) ((rd_T125 x7_1 x8_1).f1)).f7) t576 t577) = some r := by rw [if_pos rfl] at H; exact H
                                 clear H
                                 have H := H1
                                 clear H1
                                 have H' := Aside0.mk H
                                 clear H
                                 try go_wp2
                                 have n0_ := Aside0.mk (Kd.R_drew HO_5.out)
                                 have n1_ := Aside0.mk (Kd.R_drew HO_7.out)
                                 have n2_ := Aside0.mk (blk_drew BK564.out)
                                 have n3_ := Aside0.mk (blk_drew BK573.out)
                                 have n4_ := Aside0.mk (blk_drew BK578.out)
                                 have n5_ := Aside0.mk (below_drew1 HB.out)
                                 clear HO_5
                                 clear HO_7
                                 clear BK564
                                 clear BK573
                                 clear BK578
                                 clear HB
                                 have HO_5 := n0_
                                 have HO_7 := n1_
                                 have BK564 := n2_
                                 have BK573 := n3_
                                 have BK578 := n4_
                                 have HB := n5_
                                 clear n0_ n1_ n2_ n3_ n4_ n5_
                                 refine start_ (n := 10) (S := fun w' => True) (ds := []) #[false, false, false, false, false, false, false, false, false, false] (by kernel_rfl) rfl rfl trivial (fun hHeld => ?_); refine with_tabW spec_Needed.tab18 spec_Needed.bits18 (fun HT_ HW_ => ?_)
                                 generalize wr.drew = w51 at HO_5 HO_7 BK564 BK573 BK578 HB hHeld ⊢
                                 refine pure_ (i := 0) (N := some 79) (v := ?_) (a' := ?_) #[true, false, false, false, false, false, false, false, false, false] rfl rfl (any_of HT_.out (by kernel_rfl)) (fun _ _ _ h => h) (Or.inl ⟨by rfl, ?_⟩) ?_ ?_
                                 rotate_left
                                 · intro w'
                                   go_simp
                                   with_reducible rfl
                                 rotate_left
                                 · simp only [Act.put, List.setIfInBounds_toArray, List.set_cons_zero, List.set_cons_succ, i64_w, i32_w]
                                   rfl
                                 refine pure_ (i := 1) (N := some 80) (v := ?_) (a' := ?_) #[true, true, false, false, false, false, false, false, false, false] rfl rfl (any_of HT_.out (by kernel_rfl)) (fun _ _ _ h => h) (Or.inl ⟨by rfl, ?_⟩) ?_ ?_
                                 rotate_left
                                 · intro w'
                                   go_simp
                                   with_reducible rfl
                                 rotate_left
                                 · simp only [Act.put, List.setIfInBounds_toArray, List.set_cons_zero, List.set_cons_succ, i64_w, i32_w]
                                   rfl
                                 refine pure_ (i := 2) (N := some 81) (v := undef) (a' := ?_) #[true, true, true, false, false, false, false, false, false, false] rfl rfl (any_of HT_.out (by kernel_rfl)) (fun _ _ _ h => h) (Or.inr ⟨by rfl, rfl⟩) ?_ ?_
                                 rotate_left
                                 · simp only [Act.put, List.setIfInBounds_toArray, List.set_cons_zero, List.set_cons_succ, i64_w, i32_w]
                                   rfl
                                 refine pure_ (i := 3) (N := some 82) (v := undef) (a' := ?_) #[true, true, true, true, false, false, false, false, false, false] rfl rfl (any_of HT_.out (by kernel_rfl)) (fun _ _ _ h => h) (Or.inr ⟨by rfl, rfl⟩) ?_ ?_
                                 rotate_left
                                 · simp only [Act.put, List.setIfInBounds_toArray, List.set_cons_zero, List.set_cons_succ, i64_w, i32_w]
                                   rfl
                                 refine pure_ (i := 4) (N := some 83) (v := undef) (a' := ?_) #[true, true, true, true, true, false, false, false, false, false] rfl rfl (any_of HT_.out (by kernel_rfl)) (fun _ _ _ h => h) (Or.inr ⟨by rfl, rfl⟩) ?_ ?_
                                 rotate_left
                                 · simp only [Act.put, List.setIfInBounds_toArray, List.set_cons_zero, List.set_cons_succ, i64_w, i32_w]
                                   rfl
                                 refine pure_ (i := 5) (N := some 84) (v := undef) (a' := ?_) #[true, true, true, true, true, true, false, false, false, false] rfl rfl (any_of HT_.out (by kernel_rfl)) (fun _ _ _ h => h) (Or.inr ⟨by rfl, rfl⟩) ?_ ?_
                                 rotate_left
                                 · simp only [Act.put, List.setIfInBounds_toArray, List.set_cons_zero, List.set_cons_succ, i64_w, i32_w]
                                   rfl
                                 refine pure_ (i := 6) (N := some 85) (v := undef) (a' := ?_) #[true, true, true, true, true, true, true, false, false, false] rfl rfl (any_of HT_.out (by kernel_rfl)) (fun _ _ _ h => h) (Or.inr ⟨by rfl, rfl⟩) ?_ ?_
                                 rotate_left
                                 · simp only [Act.put, List.setIfInBounds_toArray, List.set_cons_zero, List.set_cons_succ, i64_w, i32_w]
                                   rfl
                                 refine pure_ (i := 7) (N := some 86) (v := undef) (a' := ?_) #[true, true, true, true, true, true, true, true, false, false] rfl rfl (any_of HT_.out (by kernel_rfl)) (fun _ _ _ h => h) (Or.inr ⟨by rfl, rfl⟩) ?_ ?_
                                 rotate_left
                                 · simp only [Act.put, List.setIfInBounds_toArray, List.set_cons_zero, List.set_cons_succ, i64_w, i32_w]
                                   rfl
                                 refine pure_ (i := 8) (N := some 87) (v := ?_) (a' := ?_) #[true, true, true, true, true, true, true, true, true, false] rfl rfl (any_of HT_.out (by kernel_rfl)) (fun _ _ _ h => h) (Or.inl ⟨by rfl, ?_⟩) ?_ ?_
                                 rotate_left
                                 · intro w'
                                   go_simp
                                   with_reducible rfl
                                 rotate_left
                                 · simp only [Act.put, List.setIfInBounds_toArray, List.set_cons_zero, List.set_cons_succ, i64_w, i32_w]
                                   rfl
                                 refine pure_ (i := 9) (N := some 12) (v := ?_) (a' := ?_) #[true, true, true, true, true, true, true, true, true, true] rfl rfl (any_of HT_.out (by kernel_rfl)) (fun _ _ _ h => h) (Or.inl ⟨by rfl, ?_⟩) ?_ ?_
                                 rotate_left
                                 · intro w'
                                   go_simp
                                   with_reducible rfl
                                 rotate_left
                                 · simp only [Act.put, List.setIfInBounds_toArray, List.set_cons_zero, List.set_cons_succ, i64_w, i32_w]
                                   rfl
                                 refine done_ (done_of HT_.out (by kernel_rfl)) ?_
                                 try go_wp2
                                 go_roundg k3
                                 case measure => have := HK1.out; have := HK2.out; have := HK3.out; omega
                                 case rel => exact ⟨(true), (wrap64 (x13_3 + 1)), (by first | rfl | (simp; done) | (simp [*]; done)), (by first | rfl | (simp; done) | (simp [*]; done)), H', ⟨by have := HK1.out; have := HK2.out; have := HK3.out; omega⟩, ⟨by (with_reducible repeat (first | apply Kd.R_alloc | apply Kd.R_drewN | apply Kd.R_drew)); exact HO_5.out⟩, ⟨by (with_reducible repeat (first | apply Kd.R_alloc | apply Kd.R_drewN | apply Kd.R_drew)); exact HO_7.out⟩, ⟨by (with_reducible repeat (first | refine blk_drewN ?_ _ | refine blk_drew ?_ | refine blk_alloc ?_ _)); exact BK564.out⟩, ⟨by (with_reducible repeat (first | refine blk_drewN ?_ _ | refine blk_drew ?_ | refine blk_alloc ?_ _)); exact BK573.out⟩, ⟨by (with_reducible repeat (first | refine blk_drewN ?_ _ | refine blk_drew ?_ | refine blk_alloc ?_ _)); exact BK578.out⟩, ⟨by repeat (first | (with_reducible first | exact HB.out | apply below_alloc | apply pw_below_drewN | apply below_drew1 | refine below_set ?_ GE564.out | refine below_set ?_ GE573.out | refine below_set ?_ GE578.out) | exact HB.out)⟩⟩
                               · replace c50 := Bool.eq_false_iff.mpr c50
                                 subst c50
                                 have H1 : (if 0 ≤ x13_3 then (spec_Needed.l2 k3 l0 y559 x7_2 x8_1 x10_2 (((rd_T125 x7_2 x13_3).f0) == t576 && (((rd_T125 x7_2 x13_3).f1) == t577)) (wrap64 (x13_3 + 1)) ((rd_T130 ((rd_T68 l0 ((rd_T125 x7_1 x8_1).f0)).f0) ((rd_T125 x7_1 x8_1).f1)).f0) ((rd_T130 ((rd_T68 l0 ((rd_T125 x7_1 x8_1).f0)).f0) ((rd_T125 x7_1 x8_1).f1)).f1) ((rd_T130 ((rd_T68 l0 ((rd_T125 x7_1 x8_1).f0)).f0) ((rd_T125 x7_1 x8_1).f1)).f2) ((rd_T130 ((rd_T68 l0 ((rd_T125 x7_1 x8_1).f0)).f0) ((rd_T125 x7_1 x8_1).f1)).f3) ((rd_T130 ((rd_T68 l0 ((rd_T125 x7_1 x8_1).f0)).f0) ((rd_T125 x7_1 x8_1).f1)).f4) ((rd_T130 ((rd_T68 l0 ((rd_T125 x7_1 x8_1).f0)).f0) ((rd_T125 x7_1 x8_1).f1)).f5) ((rd_T130 ((rd_T68 l0 ((rd_T125 x7_1 x8_1).f0)).f0) ((rd_T125 x7_1 x8_1).f1)).f6) ((rd_T130 ((rd_T68 l0 ((rd_T125 x7_1 x8_1).f0)).f0) ((rd_T125 x7_1 x8_1).f1)).f7) t576 t577) else (none)) = some r := by rw [if_neg (show ¬ (false = true) by decide)] at H; exact H
                                 clear H
                                 have H := H1
                                 clear H1
                                 by_cases c52 : 0 ≤ x13_3
                                 · rw [if_pos c52] at H
                                   have c52b0 : decide (0 ≤ x13_3) = true := decide_eq_true c52
                                   clear c52
                                   have H' := Aside0.mk H
                                   clear H
                                   try go_wp2
                                   have n0_ := Aside0.mk (Kd.R_drew HO_5.out)
                                   have n1_ := Aside0.mk (Kd.R_drew HO_7.out)
                                   have n2_ := Aside0.mk (blk_drew BK564.out)
                                   have n3_ := Aside0.mk (blk_drew BK573.out)
                                   have n4_ := Aside0.mk (blk_drew BK578.out)
                                   have n5_ := Aside0.mk (below_drew1 HB.out)
                                   clear HO_5
                                   clear HO_7
                                   clear BK564
                                   clear BK573
                                   clear BK578
                                   clear HB
                                   have HO_5 := n0_
                                   have HO_7 := n1_
                                   have BK564 := n2_
                                   have BK573 := n3_
                                   have BK578 := n4_
                                   have HB := n5_
                                   clear n0_ n1_ n2_ n3_ n4_ n5_
                                   have p579 : 0 ≤ (x13_3 : Int) := of_decide_eq_true (by first | (with_reducible assumption) | assumption)
                                   have q579 : x13_3 < (x7_2.length : Int) := of_decide_eq_true (by first | (with_reducible assumption) | assumption)
                                   obtain ⟨ad579, e579, hx579_0, hx579_1⟩ := at_T125 (Kd.R_reads' HO_7.out).2.2 x13_3 p579 q579
                                   obtain rfl : ad574 = ad579 := (by injection e579)
                                   replace p579 := eq_true p579
                                   replace q579 := eq_true q579
                                   refine start_ (n := 10) (S := fun w' => w'.cell? ⟨gb578, 0, none⟩ = some (.int .i64 t576) ∧ w'.cell? ⟨gb578, 1, none⟩ = some (.int .i64 t577) ∧ w'.cell? (ad574.add ((x13_3).toNat * 2)) = some (.int .i64 ((rd_T125 x7_2 x13_3).f0)) ∧ w'.cell? ⟨(ad574.add ((x13_3).toNat * 2)).block, (ad574.add ((x13_3).toNat * 2)).off + 1, none⟩ = some (.int .i64 ((rd_T125 x7_2 x13_3).f1))) (ds := []) #[false, false, false, false, false, false, false, false, false, false] (by kernel_rfl) rfl rfl ⟨(blk_cell BK578.out 0).trans rfl, (blk_cell BK578.out 1).trans rfl, hx579_0, hx579_1⟩ (fun hHeld => ?_); refine with_tabW spec_Needed.tab18 spec_Needed.bits18 (fun HT_ HW_ => ?_)
                                   generalize wr.drew = w53 at HO_5 HO_7 BK564 BK573 BK578 HB hx579_0 hx579_1 hHeld ⊢
                                   refine pure_ (i := 0) (N := some 79) (v := ?_) (a' := ?_) #[true, false, false, false, false, false, false, false, false, false] rfl rfl (any_of HT_.out (by kernel_rfl)) (fun _ _ _ h => h) (Or.inl ⟨by rfl, ?_⟩) ?_ ?_
                                   rotate_left
                                   · intro w'
                                     go_simp
                                     with_reducible rfl
                                   rotate_left
                                   · simp only [Act.put, List.setIfInBounds_toArray, List.set_cons_zero, List.set_cons_succ, i64_w, i32_w]
                                     rfl
                                   refine pure_ (i := 1) (N := some 80) (v := ?_) (a' := ?_) #[true, true, false, false, false, false, false, false, false, false] rfl rfl (any_of HT_.out (by kernel_rfl)) (fun _ _ _ h => h) (Or.inl ⟨by rfl, ?_⟩) ?_ ?_
                                   rotate_left
                                   · intro w'
                                     go_simp
                                     with_reducible rfl
                                   rotate_left
                                   · simp only [Act.put, List.setIfInBounds_toArray, List.set_cons_zero, List.set_cons_succ, i64_w, i32_w]
                                     rfl
                                   refine pure_ (i := 2) (N := some 81) (v := ?_) (a' := ?_) #[true, true, true, false, false, false, false, false, false, false] rfl rfl (any_of HT_.out (by kernel_rfl)) (fun _ _ _ h => h) (Or.inl ⟨by rfl, ?_⟩) ?_ ?_
                                   rotate_left
                                   · intro w'
                                     go_simp
                                     with_reducible rfl
                                   rotate_left
                                   · simp only [Act.put, List.setIfInBounds_toArray, List.set_cons_zero, List.set_cons_succ, i64_w, i32_w]
                                     rfl
                                   refine pure_ (i := 3) (N := some 82) (v := ?_) (a' := ?_) #[true, true, true, true, false, false, false, false, false, false] rfl rfl (any_of HT_.out (by kernel_rfl)) (fun _ _ _ h => h) (Or.inl ⟨by rfl, ?_⟩) ?_ ?_
                                   rotate_left
                                   · intro w'
                                     go_simp
                                     with_reducible rfl
                                   rotate_left
                                   · simp only [Act.put, List.setIfInBounds_toArray, List.set_cons_zero, List.set_cons_succ, i64_w, i32_w]
                                     rfl
                                   refine pure_ (i := 4) (N := some 83) (v := ?_) (a' := ?_) #[true, true, true, true, true, false, false, false, false, false] rfl rfl (any_of HT_.out (by kernel_rfl)) (fun _ _ _ h => h) (Or.inl ⟨by rfl, ?_⟩) ?_ ?_
                                   rotate_left
                                   · intro w'
                                     go_simp
                                     with_reducible rfl
                                   rotate_left
                                   · simp only [Act.put, List.setIfInBounds_toArray, List.set_cons_zero, List.set_cons_succ, i64_w, i32_w]
                                     rfl
                                   refine take_ (i := 5) (N := some 84) (v := ?_) (a' := ?_) #[true, true, true, true, true, true, false, false, false, false] rfl rfl (take_ofW HT_.out HW_.out (by kernel_rfl)) (fun _ _ _ h => h) (Or.inl ⟨by rfl, ?_⟩) hHeld ?_ ?_
                                   rotate_left
                                   · rintro w' ⟨s0, s1, s2, s3⟩
                                     go_simp
                                     with_reducible rfl
                                   rotate_left
                                   · simp only [Act.put, List.setIfInBounds_toArray, List.set_cons_zero, List.set_cons_succ, i64_w, i32_w]
                                     rfl
                                   refine take_ (i := 6) (N := some 85) (v := ?_) (a' := ?_) #[true, true, true, true, true, true, true, false, false, false] rfl rfl (take_ofW HT_.out HW_.out (by kernel_rfl)) (fun _ _ _ h => h) (Or.inl ⟨by rfl, ?_⟩) hHeld ?_ ?_
                                   rotate_left
                                   · rintro w' ⟨s0, s1, s2, s3⟩
                                     go_simp
                                     with_reducible rfl
                                   rotate_left
                                   · simp only [Act.put, List.setIfInBounds_toArray, List.set_cons_zero, List.set_cons_succ, i64_w, i32_w]
                                     rfl
                                   refine pure_ (i := 7) (N := some 86) (v := ?_) (a' := ?_) #[true, true, true, true, true, true, true, true, false, false] rfl rfl (any_of HT_.out (by kernel_rfl)) (fun _ _ _ h => h) (Or.inl ⟨by rfl, ?_⟩) ?_ ?_
                                   rotate_left
                                   · intro w'
                                     go_simp
                                     with_reducible rfl
                                   rotate_left
                                   · simp only [Act.put, List.setIfInBounds_toArray, List.set_cons_zero, List.set_cons_succ, i64_w, i32_w]
                                     rfl
                                   refine pure_ (i := 8) (N := some 87) (v := ?_) (a' := ?_) #[true, true, true, true, true, true, true, true, true, false] rfl rfl (any_of HT_.out (by kernel_rfl)) (fun _ _ _ h => h) (Or.inl ⟨by rfl, ?_⟩) ?_ ?_
                                   rotate_left
                                   · intro w'
                                     go_simp
                                     with_reducible rfl
                                   rotate_left
                                   · simp only [Act.put, List.setIfInBounds_toArray, List.set_cons_zero, List.set_cons_succ, i64_w, i32_w]
                                     rfl
                                   refine pure_ (i := 9) (N := some 12) (v := ?_) (a' := ?_) #[true, true, true, true, true, true, true, true, true, true] rfl rfl (any_of HT_.out (by kernel_rfl)) (fun _ _ _ h => h) (Or.inl ⟨by rfl, ?_⟩) ?_ ?_
                                   rotate_left
                                   · intro w'
                                     go_simp
                                     with_reducible rfl
                                   rotate_left
                                   · simp only [Act.put, List.setIfInBounds_toArray, List.set_cons_zero, List.set_cons_succ, i64_w, i32_w]
                                     rfl
                                   refine done_ (done_of HT_.out (by kernel_rfl)) ?_
                                   try go_wp2
                                   go_roundg k3
                                   case measure => have := HK1.out; have := HK2.out; have := HK3.out; omega
                                   case rel => exact ⟨((((rd_T125 x7_2 x13_3).f0) == t576 && (((rd_T125 x7_2 x13_3).f1) == t577))), (wrap64 (x13_3 + 1)), (by first | rfl | (simp; done) | (simp [*]; done)), (by first | rfl | (simp; done) | (simp [*]; done)), H', ⟨by have := HK1.out; have := HK2.out; have := HK3.out; omega⟩, ⟨by (with_reducible repeat (first | apply Kd.R_alloc | apply Kd.R_drewN | apply Kd.R_drew)); exact HO_5.out⟩, ⟨by (with_reducible repeat (first | apply Kd.R_alloc | apply Kd.R_drewN | apply Kd.R_drew)); exact HO_7.out⟩, ⟨by (with_reducible repeat (first | refine blk_drewN ?_ _ | refine blk_drew ?_ | refine blk_alloc ?_ _)); exact BK564.out⟩, ⟨by (with_reducible repeat (first | refine blk_drewN ?_ _ | refine blk_drew ?_ | refine blk_alloc ?_ _)); exact BK573.out⟩, ⟨by (with_reducible repeat (first | refine blk_drewN ?_ _ | refine blk_drew ?_ | refine blk_alloc ?_ _)); exact BK578.out⟩, ⟨by repeat (first | (with_reducible first | exact HB.out | apply below_alloc | apply pw_below_drewN | apply below_drew1 | refine below_set ?_ GE564.out | refine below_set ?_ GE573.out | refine below_set ?_ GE578.out) | exact HB.out)⟩⟩
                                 · rw [if_neg c52] at H
                                   exact absurd H (by simp)
                             · rw [if_neg c49] at H
                               have c49b0 : decide (x13_3 < (x7_2.length : Int)) = false := decide_eq_false c49
                               clear c49
                               by_cases c54 : x12_3 = true
                               · subst c54
                                 have H1 : (spec_Needed.l1 k3 l0 y559 x7_2 x8_1 (wrap64 (x10_2 + 1)) ((rd_T130 ((rd_T68 l0 ((rd_T125 x7_1 x8_1).f0)).f0) ((rd_T125 x7_1 x8_1).f1)).f0) ((rd_T130 ((rd_T68 l0 ((rd_T125 x7_1 x8_1).f0)).f0) ((rd_T125 x7_1 x8_1).f1)).f1) ((rd_T130 ((rd_T68 l0 ((rd_T125 x7_1 x8_1).f0)).f0) ((rd_T125 x7_1 x8_1).f1)).f2) ((rd_T130 ((rd_T68 l0 ((rd_T125 x7_1 x8_1).f0)).f0) ((rd_T125 x7_1 x8_1).f1)).f3) ((rd_T130 ((rd_T68 l0 ((rd_T125 x7_1 x8_1).f0)).f0) ((rd_T125 x7_1 x8_1).f1)).f4) ((rd_T130 ((rd_T68 l0 ((rd_T125 x7_1 x8_1).f0)).f0) ((rd_T125 x7_1 x8_1).f1)).f5) ((rd_T130 ((rd_T68 l0 ((rd_T125 x7_1 x8_1).f0)).f0) ((rd_T125 x7_1 x8_1).f1)).f6) ((rd_T130 ((rd_T68 l0 ((rd_T125 x7_1 x8_1).f0)).f0) ((rd_T125 x7_1 x8_1).f1)).f7)) = some r := by rw [if_pos rfl] at H; exact H
                                 clear H
                                 have H := H1
                                 clear H1
                                 have H' := Aside0.mk H
                                 clear H
                                 go_wp2
                                 go_roundg k3
                                 case measure => have := HK1.out; have := HK2.out; have := HK3.out; omega
                                 case rel => exact ⟨(x7_2), (wrap64 (x10_2 + 1)), (by first | rfl | (simp; done) | (simp [*]; done)), H', ⟨by have := HK1.out; have := HK2.out; have := HK3.out; omega⟩, ⟨by (with_reducible repeat (first | apply Kd.R_alloc | apply Kd.R_drewN | apply Kd.R_drew)); exact Kd.R_mono HO_5.out (fun _ hk => ⟨hk.1, hk.2.1⟩)⟩, ⟨by (with_reducible repeat (first | apply Kd.R_alloc | apply Kd.R_drewN | apply Kd.R_drew)); exact Kd.R_mono HO_7.out (fun _ hk => ⟨hk.1, hk.2.1⟩)⟩, ⟨by (with_reducible repeat (first | refine blk_drewN ?_ _ | refine blk_drew ?_ | refine blk_alloc ?_ _)); exact BK564.out⟩, ⟨by (with_reducible repeat (first | refine blk_drewN ?_ _ | refine blk_drew ?_ | refine blk_alloc ?_ _)); exact BK573.out⟩, ⟨by repeat (first | (with_reducible first | exact HB.out | apply below_alloc | apply pw_below_drewN | apply below_drew1 | refine below_set ?_ GE564.out | refine below_set ?_ GE573.out | refine below_set ?_ GE578.out) | exact HB.out)⟩⟩
                               · replace c54 := Bool.eq_false_iff.mpr c54
                                 subst c54
                                 have H1 : (if x7_2.length < 8796093022208 then (spec_Needed.l1 k3 l0 y559 (x7_2 ++ [(⟨t576, t577⟩ : S125)]) x8_1 (wrap64 (x10_2 + 1)) ((rd_T130 ((rd_T68 l0 ((rd_T125 x7_1 x8_1).f0)).f0) ((rd_T125 x7_1 x8_1).f1)).f0) ((rd_T130 ((rd_T68 l0 ((rd_T125 x7_1 x8_1).f0)).f0) ((rd_T125 x7_1 x8_1).f1)).f1) ((rd_T130 ((rd_T68 l0 ((rd_T125 x7_1 x8_1).f0)).f0) ((rd_T125 x7_1 x8_1).f1)).f2) ((rd_T130 ((rd_T68 l0 ((rd_T125 x7_1 x8_1).f0)).f0) ((rd_T125 x7_1 x8_1).f1)).f3) ((rd_T130 ((rd_T68 l0 ((rd_T125 x7_1 x8_1).f0)).f0) ((rd_T125 x7_1 x8_1).f1)).f4) ((rd_T130 ((rd_T68 l0 ((rd_T125 x7_1 x8_1).f0)).f0) ((rd_T125 x7_1 x8_1).f1)).f5) ((rd_T130 ((rd_T68 l0 ((rd_T125 x7_1 x8_1).f0)).f0) ((rd_T125 x7_1 x8_1).f1)).f6) ((rd_T130 ((rd_T68 l0 ((rd_T125 x7_1 x8_1).f0)).f0) ((rd_T125 x7_1 x8_1).f1)).f7)) else (none)) = some r := by rw [if_neg (show ¬ (false = true) by decide)] at H; exact H
                                 clear H
                                 have H := H1
                                 clear H1
                                 by_cases c55 : x7_2.length < 8796093022208
                                 · rw [if_pos c55] at H
                                   have LMc55 := Aside0.mk c55
                                   clear c55
                                   obtain ⟨y580, hy580⟩ : ∃ y_ : List (S125), y_ = (x7_2 ++ [(⟨t576, t577⟩ : S125)]) := ⟨_, rfl⟩
                                   replace H : (spec_Needed.l1 k3 l0 y559 y580 x8_1 (wrap64 (x10_2 + 1)) ((rd_T130 ((rd_T68 l0 ((rd_T125 x7_1 x8_1).f0)).f0) ((rd_T125 x7_1 x8_1).f1)).f0) ((rd_T130 ((rd_T68 l0 ((rd_T125 x7_1 x8_1).f0)).f0) ((rd_T125 x7_1 x8_1).f1)).f1) ((rd_T130 ((rd_T68 l0 ((rd_T125 x7_1 x8_1).f0)).f0) ((rd_T125 x7_1 x8_1).f1)).f2) ((rd_T130 ((rd_T68 l0 ((rd_T125 x7_1 x8_1).f0)).f0) ((rd_T125 x7_1 x8_1).f1)).f3) ((rd_T130 ((rd_T68 l0 ((rd_T125 x7_1 x8_1).f0)).f0) ((rd_T125 x7_1 x8_1).f1)).f4) ((rd_T130 ((rd_T68 l0 ((rd_T125 x7_1 x8_1).f0)).f0) ((rd_T125 x7_1 x8_1).f1)).f5) ((rd_T130 ((rd_T68 l0 ((rd_T125 x7_1 x8_1).f0)).f0) ((rd_T125 x7_1 x8_1).f1)).f6) ((rd_T130 ((rd_T68 l0 ((rd_T125 x7_1 x8_1).f0)).f0) ((rd_T125 x7_1 x8_1).f1)).f7)) = some r := by first | (rw [hy580]; with_reducible exact H) | (have H2_ := (Option.bind_some _ _).symm.trans H; rw [hy580]; with_reducible exact H2_) | (have H2_ := (Option.bind_some _ _).symm.trans H; with_reducible exact H2_) | with_reducible exact H | (rw [hy580]; exact H) | exact H
                                   have Ny580 := Aside0.mk hy580
                                   clear hy580
                                   have H' := Aside0.mk H
                                   clear H
                                   have hnb56 := NB578_564.out
                                   have hnc56 := NB564_578.out
                                   have hnb57 := NB578_573.out
                                   have hnc57 := NB573_578.out
                                   have hcz58_0 : wr.cell? ⟨gb578, 0, none⟩ = some (.int .i64 t576) := (blk_cell BK578.out 0).trans rfl
                                   have hcz58_1 : wr.cell? ⟨gb578, 1, none⟩ = some (.int .i64 t577) := (blk_cell BK578.out 1).trans rfl
                                   have hfz58_0 := blk_frozen BK578.out 0
                                   have hfz58_1 := blk_frozen BK578.out 1
                                   go_wp2_with (first | ((with_reducible refine gate_builtin (b := .append) (xs := #[.tmp 90, .tmp 92]) rfl ?_); at_builtin; refine Kd.R_append k125 (w0 := w) w.heap.size rfl (.tmp 90) (.tmp 92) 50 125 (.agg #[(.int .i64 0), (.int .i64 0)]) 16 rfl Try.underlying50 info125 rfl (by decide) (by omega) (.slice (some ad574) x7_2.length co40) x7_2 (⟨t576, t577⟩ : S125) [.int .i64 t576, .int .i64 t577] (fun k_ => some k_ ≠ (v560 : Value).ownBlock ∧ k_ ≠ gb564 ∧ k_ ≠ gb578) (fun _ => False) rfl rfl ?aP (fun _ hk => hk.elim) ?aF ?aO ?aB ?aS ?aL ?_; (case aP => exact k125_mkM _ _ _ (⟨t576, t577⟩ : S125)); (case aB => exact (by repeat (first | (with_reducible first | exact HB.out | apply below_alloc | apply pw_below_drewN | apply below_drew1 | refine below_set ?_ GE564.out | refine below_set ?_ GE573.out | refine below_set ?_ GE578.out) | exact HB.out))); (case aF => exact (fun k_ hk => ⟨Kd.fresh' (Kd.R_lt (by (with_reducible repeat (first | apply Kd.R_alloc | apply Kd.R_drewN | apply Kd.R_drew)); exact HO_5.out)) k_ hk, Kd.freshB (g := gb564) (o := .cells #[.int .i64 t562, .int .i64 t563] 125 (0, 0)) (by (with_reducible repeat (first | refine blk_drewN ?_ _ | refine blk_drew ?_ | refine blk_alloc ?_ _)); exact BK564.out) k_ hk, Kd.freshB (g := gb578) (o := .cells #[.int .i64 t576, .int .i64 t577] 125 (0, 0)) (by (with_reducible repeat (first | refine blk_drewN ?_ _ | refine blk_drew ?_ | refine blk_alloc ?_ _)); exact BK578.out) k_ hk⟩)); (case aO => exact (by (with_reducible repeat (first | apply Kd.R_alloc | apply Kd.R_drewN | apply Kd.R_drew)); exact HO_7.out)); (case aS => exact (below_size (by repeat (first | (with_reducible first | exact HB.out | apply below_alloc | apply pw_below_drewN | apply below_drew1 | refine below_set ?_ GE564.out | refine below_set ?_ GE573.out | refine below_set ?_ GE578.out) | exact HB.out)))); (case aL => have := LMc55.out; omega); intro v581 w59 ho hb hg hat; rw [← Ny580.out] at ho; have n0_ := Aside0.mk (Kd.R_after (ok := (fun k_ => k_ ≠ gb564 ∧ k_ ≠ gb578)) (by (with_reducible repeat (first | apply Kd.R_alloc | apply Kd.R_drewN | apply Kd.R_drew)); exact Kd.R_mono HO_5.out (fun _ hk => ⟨⟨hk.2.1, hk.2.2⟩, hk.1⟩)) hg hat); have n1_ := Aside0.mk (blk_grown (g := gb564) (o := .cells #[.int .i64 t562, .int .i64 t563] 125 (0, 0)) (by (with_reducible repeat (first | refine blk_drewN ?_ _ | refine blk_drew ?_ | refine blk_alloc ?_ _)); exact BK564.out) hg (Kd.R_away HO_7.out (fun _ hk => hk.2.1))); have n2_ := Aside0.mk (blk_grown (g := gb573) (o := .cells #[.string ((rd_T130 ((rd_T68 l0 ((rd_T125 x7_1 x8_1).f0)).f0) ((rd_T125 x7_1 x8_1).f1)).f0), .int .i64 ((rd_T130 ((rd_T68 l0 ((rd_T125 x7_1 x8_1).f0)).f0) ((rd_T125 x7_1 x8_1).f1)).f1), .int .i64 ((rd_T130 ((rd_T68 l0 ((rd_T125 x7_1 x8_1).f0)).f0) ((rd_T125 x7_1 x8_1).f1)).f2), .int .i64 ((rd_T130 ((rd_T68 l0 ((rd_T125 x7_1 x8_1).f0)).f0) ((rd_T125 x7_1 x8_1).f1)).f3), .slice A572_4 ((rd_T130 ((rd_T68 l0 ((rd_T125 x7_1 x8_1).f0)).f0) ((rd_T125 x7_1 x8_1).f1)).f4).length c572_4, .int .i64 ((rd_T130 ((rd_T68 l0 ((rd_T125 x7_1 x8_1).f0)).f0) ((rd_T125 x7_1 x8_1).f1)).f5), .slice A572_6 ((rd_T130 ((rd_T68 l0 ((rd_T125 x7_1 x8_1).f0)).f0) ((rd_T125 x7_1 x8_1).f1)).f6).length c572_6, .slice (some ad575) ((rd_T130 ((rd_T68 l0 ((rd_T125 x7_1 x8_1).f0)).f0) ((rd_T125 x7_1 x8_1).f1)).f7).length c572_7] 130 (0, 0)) (by (with_reducible repeat (first | refine blk_drewN ?_ _ | refine blk_drew ?_ | refine blk_alloc ?_ _)); exact BK573.out) hg (Kd.R_ne HO_7.out BK573.out (by decide))); have n3_ := Aside0.mk (blk_grown (g := gb578) (o := .cells #[.int .i64 t576, .int .i64 t577] 125 (0, 0)) (by (with_reducible repeat (first | refine blk_drewN ?_ _ | refine blk_drew ?_ | refine blk_alloc ?_ _)); exact BK578.out) hg (Kd.R_away HO_7.out (fun _ hk => hk.2.2))); have n4_ := Aside0.mk (hb); have n5_ := Aside0.mk (ho); clear HO_5; clear BK564; clear BK573; clear BK578; clear HB; clear HO_7; have HO_5 := n0_; have BK564 := n1_; have BK573 := n2_; have BK578 := n3_; have HB := n4_; have HO582 := n5_; clear n0_ n1_ n2_ n3_ n4_ n5_; clear ho hb hg hat))
                                   go_roundg k3
                                   case measure => have := HK1.out; have := HK2.out; have := HK3.out; omega
                                   case rel => exact ⟨(y580), (wrap64 (x10_2 + 1)), (by first | rfl | (simp; done) | (simp [*]; done)), H', ⟨by have := HK1.out; have := HK2.out; have := HK3.out; omega⟩, ⟨by (with_reducible repeat (first | apply Kd.R_alloc | apply Kd.R_drewN | apply Kd.R_drew)); exact Kd.R_mono HO_5.out (fun _ hk => ⟨hk.2, hk.1.1⟩)⟩, ⟨by (with_reducible repeat (first | apply Kd.R_alloc | apply Kd.R_drewN | apply Kd.R_drew)); exact Kd.R_mono HO582.out (fun _ hk => ⟨hk.1, hk.2.1⟩)⟩, ⟨by (with_reducible repeat (first | refine blk_drewN ?_ _ | refine blk_drew ?_ | refine blk_alloc ?_ _)); exact BK564.out⟩, ⟨by (with_reducible repeat (first | refine blk_drewN ?_ _ | refine blk_drew ?_ | refine blk_alloc ?_ _)); exact BK573.out⟩, ⟨by repeat (first | (with_reducible first | exact HB.out | apply below_alloc | apply pw_below_drewN | apply below_drew1 | refine below_set ?_ GE564.out | refine below_set ?_ GE573.out | refine below_set ?_ GE578.out) | exact HB.out)⟩⟩
                                 · rw [if_neg c55] at H
                                   exact absurd H (by simp)
                         · rw [if_neg c35] at H
                           exact absurd H (by simp)
                       · rw [if_neg c34] at H
                         exact absurd H (by simp)
                     · rw [if_neg c33] at H
                       exact absurd H (by simp)
                   · rw [if_neg c32] at H
                     have c32b0 : decide (x10_2 < (((rd_T130 ((rd_T68 l0 ((rd_T125 x7_1 x8_1).f0)).f0) ((rd_T125 x7_1 x8_1).f1)).f7).length : Int)) = false := decide_eq_false c32
                     clear c32
                     have H' := Aside0.mk H
                     clear H
                     have hnb60 := NB573_564.out
                     have hnc60 := NB564_573.out
                     have hcz61_0 : wr.cell? ⟨gb573, 0, none⟩ = some (.string ((rd_T130 ((rd_T68 l0 ((rd_T125 x7_1 x8_1).f0)).f0) ((rd_T125 x7_1 x8_1).f1)).f0)) := (blk_cell BK573.out 0).trans rfl
                     have hcz61_1 : wr.cell? ⟨gb573, 1, none⟩ = some (.int .i64 ((rd_T130 ((rd_T68 l0 ((rd_T125 x7_1 x8_1).f0)).f0) ((rd_T125 x7_1 x8_1).f1)).f1)) := (blk_cell BK573.out 1).trans rfl
                     have hcz61_2 : wr.cell? ⟨gb573, 2, none⟩ = some (.int .i64 ((rd_T130 ((rd_T68 l0 ((rd_T125 x7_1 x8_1).f0)).f0) ((rd_T125 x7_1 x8_1).f1)).f2)) := (blk_cell BK573.out 2).trans rfl
                     have hcz61_3 : wr.cell? ⟨gb573, 3, none⟩ = some (.int .i64 ((rd_T130 ((rd_T68 l0 ((rd_T125 x7_1 x8_1).f0)).f0) ((rd_T125 x7_1 x8_1).f1)).f3)) := (blk_cell BK573.out 3).trans rfl
                     have hcz61_4 : wr.cell? ⟨gb573, 4, none⟩ = some (.slice A572_4 ((rd_T130 ((rd_T68 l0 ((rd_T125 x7_1 x8_1).f0)).f0) ((rd_T125 x7_1 x8_1).f1)).f4).length c572_4) := (blk_cell BK573.out 4).trans rfl
                     have hcz61_5 : wr.cell? ⟨gb573, 5, none⟩ = some (.int .i64 ((rd_T130 ((rd_T68 l0 ((rd_T125 x7_1 x8_1).f0)).f0) ((rd_T125 x7_1 x8_1).f1)).f5)) := (blk_cell BK573.out 5).trans rfl
                     have hcz61_6 : wr.cell? ⟨gb573, 6, none⟩ = some (.slice A572_6 ((rd_T130 ((rd_T68 l0 ((rd_T125 x7_1 x8_1).f0)).f0) ((rd_T125 x7_1 x8_1).f1)).f6).length c572_6) := (blk_cell BK573.out 6).trans rfl
                     have hcz61_7 : wr.cell? ⟨gb573, 7, none⟩ = some (.slice A572_7 ((rd_T130 ((rd_T68 l0 ((rd_T125 x7_1 x8_1).f0)).f0) ((rd_T125 x7_1 x8_1).f1)).f7).length c572_7) := (blk_cell BK573.out 7).trans rfl
                     have hfz61_0 := blk_frozen BK573.out 0
                     have hfz61_1 := blk_frozen BK573.out 1
                     have hfz61_2 := blk_frozen BK573.out 2
                     have hfz61_3 := blk_frozen BK573.out 3
                     have hfz61_4 := blk_frozen BK573.out 4
                     have hfz61_5 := blk_frozen BK573.out 5
                     have hfz61_6 := blk_frozen BK573.out 6
                     have hfz61_7 := blk_frozen BK573.out 7
                     go_wp2
                     go_roundg k2
                     case measure => have := HK1.out; have := HK2.out; omega
                     case rel => exact ⟨(x7_2), (wrap64 (x8_1 + 1)), (by first | rfl | (simp; done) | (simp [*]; done)), H', ⟨by have := HK1.out; have := HK2.out; omega⟩, ⟨by (with_reducible repeat (first | apply Kd.R_alloc | apply Kd.R_drewN | apply Kd.R_drew)); exact HO_5.out⟩, ⟨by (with_reducible repeat (first | apply Kd.R_alloc | apply Kd.R_drewN | apply Kd.R_drew)); exact HO_7.out⟩, ⟨by (with_reducible repeat (first | refine blk_drewN ?_ _ | refine blk_drew ?_ | refine blk_alloc ?_ _)); exact BK564.out⟩, ⟨by repeat (first | (with_reducible first | exact HB.out | apply below_alloc | apply pw_below_drewN | apply below_drew1 | refine below_set ?_ GE564.out | refine below_set ?_ GE573.out) | exact HB.out)⟩⟩
               · rw [if_neg c20] at H
                 exact absurd H (by simp)
             · rw [if_neg c19] at H
               exact absurd H (by simp)
           · rw [if_neg c18] at H
             exact absurd H (by simp)
         · rw [if_neg c17] at H
           exact absurd H (by simp)
       · rw [if_neg c16] at H
         exact absurd H (by simp)
     · rw [if_neg c15] at H
       have c15b0 : decide (x8_1 < (x7_1.length : Int)) = false := decide_eq_false c15
       clear c15
       have H' := Aside0.mk H
       clear H
       obtain ⟨Ao62, co62, eo62⟩ := Kd.R_slice HO_7.out
       subst eo62
       go_wp2
       go_loopg [5, 14] k1 (fun kq v5 v14 w' => ∃ (x5_2 : List (S125)) (x14_2 : Int), v14 = .int .i64 x14_2 ∧ Aside0 (spec_Needed.l3 kq l0 x5_2 x7_1 x14_2 = some r) ∧ Aside0 (kq ≤ k1) ∧ Aside0 (Kd.R k125 125 w' w.heap.size (fun k_ => some k_ ≠ ((.slice Ao62 x7_1.length co62) : Value).ownBlock ∧ k_ ≠ gb564) v5 x5_2) ∧ Aside0 (Kd.R k125 125 w' w.heap.size (fun k_ => some k_ ≠ (v5 : Value).ownBlock ∧ k_ ≠ gb564) (.slice Ao62 x7_1.length co62) x7_1) ∧ Aside0 (w'.heap[gb564]? = some (.cells #[.int .i64 t562, .int .i64 t563] 125 (0, 0))) ∧ Aside0 (Below w.heap.size w w'))
       case atStart => exact ⟨(y559), (0), (by first | rfl | (simp; done) | (simp [*]; done)), H', ⟨Nat.le_refl _⟩, ⟨by (with_reducible repeat (first | apply Kd.R_alloc | apply Kd.R_drewN | apply Kd.R_drew)); exact HO_5.out⟩, ⟨by (with_reducible repeat (first | apply Kd.R_alloc | apply Kd.R_drewN | apply Kd.R_drew)); exact HO_7.out⟩, ⟨by (with_reducible repeat (first | refine blk_drewN ?_ _ | refine blk_drew ?_ | refine blk_alloc ?_ _)); exact BK564.out⟩, ⟨by repeat (first | (with_reducible first | exact HB.out | apply below_alloc | apply pw_below_drewN | apply below_drew1 | refine below_set ?_ GE564.out) | exact HB.out)⟩⟩
       case round =>
        clear H'
        try clear c1
        try clear c2
        try clear p2
        try clear c3
        try clear c4
        try clear c5
        try clear p5
        try clear q5
        try clear hx5
        try clear c6
        try clear p6
        try clear c8
        try clear c15
        try clear c15b0
        try clear c16
        try clear c16b0
        try clear c17
        try clear c17b0
        try clear c18
        try clear c18b0
        try clear c19
        try clear c19b0
        try clear c20
        try clear c20b0
        try clear c32
        try clear c32b0
        try clear c33
        try clear c33b0
        try clear c34
        try clear c34b0
        try clear c35
        try clear c35b0
        try clear c37
        try clear c46
        try clear c47
        try clear c49
        try clear c49b0
        try clear c50
        try clear c52
        try clear c52b0
        try clear c54
        try clear c55
        try clear c56
        try clear p56
        try clear q56
        try clear hx56
        try clear c57
        try clear p57
        try clear q57
        try clear hx57
        try clear c60
        try clear hcz10_0
        try clear hcz10_1
        try clear hcz12_0
        try clear hcz12_1
        try clear hcz38_0
        try clear hcz38_1
        try clear hcz38_2
        try clear hcz38_3
        try clear hcz38_4
        try clear hcz38_5
        try clear hcz38_6
        try clear hcz38_7
        try clear hcz48_0
        try clear hcz48_1
        try clear hcz58_0
        try clear hcz58_1
        try clear hcz61_0
        try clear hcz61_1
        try clear hcz61_2
        try clear hcz61_3
        try clear hcz61_4
        try clear hcz61_5
        try clear hcz61_6
        try clear hcz61_7
        try clear hfz10_0
        try clear hfz10_1
        try clear hfz12_0
        try clear hfz12_1
        try clear hfz38_0
        try clear hfz38_1
        try clear hfz38_2
        try clear hfz38_3
        try clear hfz38_4
        try clear hfz38_5
        try clear hfz38_6
        try clear hfz38_7
        try clear hfz48_0
        try clear hfz48_1
        try clear hfz58_0
        try clear hfz58_1
        try clear hfz61_0
        try clear hfz61_1
        try clear hfz61_2
        try clear hfz61_3
        try clear hfz61_4
        try clear hfz61_5
        try clear hfz61_6
        try clear hfz61_7
        try clear hx569_0
        try clear hx569_1
        try clear hx570_0
        try clear hx571_0
        try clear hx571_1
        try clear hx572_0
        try clear hx572_1
        try clear hx572_2
        try clear hx572_3
        try clear hx572_4
        try clear hx572_5
        try clear hx572_6
        try clear hx572_7
        try clear hx574_0
        try clear hx574_1
        try clear hx575_0
        try clear hx575_1
        try clear hx575_2
        try clear hx579_0
        try clear hx579_1
        try clear p2
        try clear p5
        try clear p569
        try clear p570
        try clear p571
        try clear p572
        try clear p574
        try clear p575
        try clear p579
        try clear q5
        try clear q569
        try clear q570
        try clear q571
        try clear q572
        try clear q574
        try clear q575
        try clear q579
        obtain ⟨x5_2, x14_2, rfl, HA, HK2, HO_5, HO_7, BK564, HB⟩ := hrel
        cases gk with
        | zero => exact absurd HA.out (by simp [spec_Needed.l3])
        | succ k2 =>
         have H := HA.out
         clear HA
         simp only [spec_Needed.l3] at H
         by_cases c63 : x14_2 < (l0.length : Int)
         · rw [if_pos c63] at H
           have c63b0 : decide (x14_2 < (l0.length : Int)) = true := decide_eq_true c63
           clear c63
           have H' := Aside0.mk H
           clear H
           go_wp2
           go_loopg [5, 15] k2 (fun kq v5 v15 w' => ∃ (x5_3 : List (S125)) (x15_3 : Int), v15 = .int .i64 x15_3 ∧ Aside0 (spec_Needed.l4 kq l0 x5_3 x7_1 x14_2 x15_3 = some r) ∧ Aside0 (kq ≤ k2) ∧ Aside0 (Kd.R k125 125 w' w.heap.size (fun k_ => some k_ ≠ ((.slice Ao62 x7_1.length co62) : Value).ownBlock ∧ k_ ≠ gb564) v5 x5_3) ∧ Aside0 (Kd.R k125 125 w' w.heap.size (fun k_ => some k_ ≠ (v5 : Value).ownBlock ∧ k_ ≠ gb564) (.slice Ao62 x7_1.length co62) x7_1) ∧ Aside0 (w'.heap[gb564]? = some (.cells #[.int .i64 t562, .int .i64 t563] 125 (0, 0))) ∧ Aside0 (Below w.heap.size w w'))
           case atStart => exact ⟨(x5_2), (0), (by first | rfl | (simp; done) | (simp [*]; done)), H', ⟨Nat.le_refl _⟩, ⟨by (with_reducible repeat (first | apply Kd.R_alloc | apply Kd.R_drewN | apply Kd.R_drew)); exact HO_5.out⟩, ⟨by (with_reducible repeat (first | apply Kd.R_alloc | apply Kd.R_drewN | apply Kd.R_drew)); exact HO_7.out⟩, ⟨by (with_reducible repeat (first | refine blk_drewN ?_ _ | refine blk_drew ?_ | refine blk_alloc ?_ _)); exact BK564.out⟩, ⟨by repeat (first | (with_reducible first | exact HB.out | apply below_alloc | apply pw_below_drewN | apply below_drew1 | refine below_set ?_ GE564.out) | exact HB.out)⟩⟩
           case round =>
            clear H'
            try clear c1
            try clear c2
            try clear p2
            try clear c3
            try clear c4
            try clear c5
            try clear p5
            try clear q5
            try clear hx5
            try clear c6
            try clear p6
            try clear c8
            try clear c15
            try clear c15b0
            try clear c16
            try clear c16b0
            try clear c17
            try clear c17b0
            try clear c18
            try clear c18b0
            try clear c19
            try clear c19b0
            try clear c20
            try clear c20b0
            try clear c32
            try clear c32b0
            try clear c33
            try clear c33b0
            try clear c34
            try clear c34b0
            try clear c35
            try clear c35b0
            try clear c37
            try clear c46
            try clear c47
            try clear c49
            try clear c49b0
            try clear c50
            try clear c52
            try clear c52b0
            try clear c54
            try clear c55
            try clear c56
            try clear p56
            try clear q56
            try clear hx56
            try clear c57
            try clear p57
            try clear q57
            try clear hx57
            try clear c60
            try clear c63
            try clear c63b0
            try clear hcz10_0
            try clear hcz10_1
            try clear hcz12_0
            try clear hcz12_1
            try clear hcz38_0
            try clear hcz38_1
            try clear hcz38_2
            try clear hcz38_3
            try clear hcz38_4
            try clear hcz38_5
            try clear hcz38_6
            try clear hcz38_7
            try clear hcz48_0
            try clear hcz48_1
            try clear hcz58_0
            try clear hcz58_1
            try clear hcz61_0
            try clear hcz61_1
            try clear hcz61_2
            try clear hcz61_3
            try clear hcz61_4
            try clear hcz61_5
            try clear hcz61_6
            try clear hcz61_7
            try clear hfz10_0
            try clear hfz10_1
            try clear hfz12_0
            try clear hfz12_1
            try clear hfz38_0
            try clear hfz38_1
            try clear hfz38_2
            try clear hfz38_3
            try clear hfz38_4
            try clear hfz38_5
            try clear hfz38_6
            try clear hfz38_7
            try clear hfz48_0
            try clear hfz48_1
            try clear hfz58_0
            try clear hfz58_1
            try clear hfz61_0
            try clear hfz61_1
            try clear hfz61_2
            try clear hfz61_3
            try clear hfz61_4
            try clear hfz61_5
            try clear hfz61_6
            try clear hfz61_7
            try clear hx569_0
            try clear hx569_1
            try clear hx570_0
            try clear hx571_0
            try clear hx571_1
            try clear hx572_0
            try clear hx572_1
            try clear hx572_2
            try clear hx572_3
            try clear hx572_4
            try clear hx572_5
            try clear hx572_6
            try clear hx572_7
            try clear hx574_0
            try clear hx574_1
            try clear hx575_0
            try clear hx575_1
            try clear hx575_2
            try clear hx579_0
            try clear hx579_1
            try clear p2
            try clear p5
            try clear p56
            try clear p569
            try clear p57
            try clear p570
            try clear p571
            try clear p572
            try clear p574
            try clear p575
            try clear p579
            try clear p6
            try clear q5
            try clear q56
            try clear q569
            try clear q57
            try clear q570
            try clear q571
            try clear q572
            try clear q574
            try clear q575
            try clear q579
            obtain ⟨x5_3, x15_3, rfl, HA, HK3, HO_5, HO_7, BK564, HB⟩ := hrel
            cases gk with
            | zero => exact absurd HA.out (by simp [spec_Needed.l4])
            | succ k3 =>
             have H := HA.out
             clear HA
             simp only [spec_Needed.l4] at H
             by_cases c64 : 0 ≤ x14_2
             · rw [if_pos c64] at H
               have c64b0 : decide (0 ≤ x14_2) = true := decide_eq_true c64
               clear c64
               by_cases c65 : x14_2 < (l0.length : Int)
               · rw [if_pos c65] at H
                 have c65b0 : decide (x14_2 < (l0.length : Int)) = true := decide_eq_true c65
                 clear c65
                 by_cases c66 : x15_3 < (((rd_T68 l0 x14_2).f0).length : Int)
                 · rw [if_pos c66] at H
                   have c66b0 : decide (x15_3 < (((rd_T68 l0 x14_2).f0).length : Int)) = true := decide_eq_true c66
                   clear c66
                   have H' := Aside0.mk H
                   clear H
                   have p583 : 0 ≤ (x14_2 : Int) := of_decide_eq_true (by first | (with_reducible assumption) | assumption)
                   have q583 : x14_2 < (l0.length : Int) := of_decide_eq_true (by first | (with_reducible assumption) | assumption)
                   obtain ⟨ad583, A583_0, c583_0, e583, hx583_0, hl583_0, hi583_0⟩ := at_T68 HR0.out x14_2 p583 q583
                   cases e583
                   replace hx583_0 := (HB.out.cell (World.block_lt_of_cell? w _ hx583_0)).trans hx583_0
                   have HR583_0 := Aside0.mk hi583_0
                   have HC583_0 := Aside0.mk hl583_0
                   clear hi583_0 hl583_0
                   replace p583 := eq_true p583
                   replace q583 := eq_true q583
                   go_wp2
                   go_loopg [5, 16] k3 (fun kq v5 v16 w' => ∃ (x5_4 : List (S125)) (x16_4 : Int), v16 = .int .i64 x16_4 ∧ Aside0 (spec_Needed.l5 kq l0 x5_4 x7_1 x14_2 x15_3 x16_4 = some r) ∧ Aside0 (kq ≤ k3) ∧ Aside0 (Kd.R k125 125 w' w.heap.size (fun k_ => some k_ ≠ ((.slice Ao62 x7_1.length co62) : Value).ownBlock ∧ k_ ≠ gb564) v5 x5_4) ∧ Aside0 (Kd.R k125 125 w' w.heap.size (fun k_ => some k_ ≠ (v5 : Value).ownBlock ∧ k_ ≠ gb564) (.slice Ao62 x7_1.length co62) x7_1) ∧ Aside0 (w'.heap[gb564]? = some (.cells #[.int .i64 t562, .int .i64 t563] 125 (0, 0))) ∧ Aside0 (Below w.heap.size w w'))
                   case atStart => exact ⟨(x5_3), (0), (by first | rfl | (simp; done) | (simp [*]; done)), H', ⟨Nat.le_refl _⟩, ⟨by (with_reducible repeat (first | apply Kd.R_alloc | apply Kd.R_drewN | apply Kd.R_drew)); exact HO_5.out⟩, ⟨by (with_reducible repeat (first | apply Kd.R_alloc | apply Kd.R_drewN | apply Kd.R_drew)); exact HO_7.out⟩, ⟨by (with_reducible repeat (first | refine blk_drewN ?_ _ | refine blk_drew ?_ | refine blk_alloc ?_ _)); exact BK564.out⟩, ⟨by repeat (first | (with_reducible first | exact HB.out | apply below_alloc | apply pw_below_drewN | apply below_drew1 | refine below_set ?_ GE564.out) | exact HB.out)⟩⟩
                   case round =>
                    clear H'
                    try clear c1
                    try clear c2
                    try clear p2
                    try clear c3
                    try clear c4
                    try clear c5
                    try clear p5
                    try clear q5
                    try clear hx5
                    try clear c6
                    try clear p6
                    try clear c8
                    try clear c15
                    try clear c15b0
                    try clear c16
                    try clear c16b0
                    try clear c17
                    try clear c17b0
                    try clear c18
                    try clear c18b0
                    try clear c19
                    try clear c19b0
                    try clear c20
                    try clear c20b0
                    try clear c32
                    try clear c32b0
                    try clear c33
                    try clear c33b0
                    try clear c34
                    try clear c34b0
                    try clear c35
                    try clear c35b0
                    try clear c37
                    try clear c46
                    try clear c47
                    try clear c49
                    try clear c49b0
                    try clear c50
                    try clear c52
                    try clear c52b0
                    try clear c54
                    try clear c55
                    try clear c56
                    try clear p56
                    try clear q56
                    try clear hx56
                    try clear c57
                    try clear p57
                    try clear q57
                    try clear hx57
                    try clear c58
                    try clear p58
                    try clear q58
                    try clear hx58
                    try clear c60
                    try clear c63
                    try clear c63b0
                    try clear c64
                    try clear c64b0
                    try clear p64
                    try clear c65
                    try clear c65b0
                    try clear c66
                    try clear c66b0
                    try clear hcz10_0
                    try clear hcz10_1
                    try clear hcz12_0
                    try clear hcz12_1
                    try clear hcz38_0
                    try clear hcz38_1
                    try clear hcz38_2
                    try clear hcz38_3
                    try clear hcz38_4
                    try clear hcz38_5
                    try clear hcz38_6
                    try clear hcz38_7
                    try clear hcz48_0
                    try clear hcz48_1
                    try clear hcz58_0
                    try clear hcz58_1
                    try clear hcz61_0
                    try clear hcz61_1
                    try clear hcz61_2
                    try clear hcz61_3
                    try clear hcz61_4
                    try clear hcz61_5
                    try clear hcz61_6
                    try clear hcz61_7
                    try clear hfz10_0
                    try clear hfz10_1
                    try clear hfz12_0
                    try clear hfz12_1
                    try clear hfz38_0
                    try clear hfz38_1
                    try clear hfz38_2
                    try clear hfz38_3
                    try clear hfz38_4
                    try clear hfz38_5
                    try clear hfz38_6
                    try clear hfz38_7
                    try clear hfz48_0
                    try clear hfz48_1
                    try clear hfz58_0
                    try clear hfz58_1
                    try clear hfz61_0
                    try clear hfz61_1
                    try clear hfz61_2
                    try clear hfz61_3
                    try clear hfz61_4
                    try clear hfz61_5
                    try clear hfz61_6
                    try clear hfz61_7
                    try clear hx569_0
                    try clear hx569_1
                    try clear hx570_0
                    try clear hx571_0
                    try clear hx571_1
                    try clear hx572_0
                    try clear hx572_1
                    try clear hx572_2
                    try clear hx572_3
                    try clear hx572_4
                    try clear hx572_5
                    try clear hx572_6
                    try clear hx572_7
                    try clear hx574_0
                    try clear hx574_1
                    try clear hx575_0
                    try clear hx575_1
                    try clear hx575_2
                    try clear hx579_0
                    try clear hx579_1
                    try clear hx583_0
                    try clear p2
                    try clear p5
                    try clear p56
                    try clear p569
                    try clear p57
                    try clear p570
                    try clear p571
                    try clear p572
                    try clear p574
                    try clear p575
                    try clear p579
                    try clear p583
                    try clear p6
                    try clear q5
                    try clear q56
                    try clear q569
                    try clear q57
                    try clear q570
                    try clear q571
                    try clear q572
                    try clear q574
                    try clear q575
                    try clear q579
                    try clear q583
                    obtain ⟨x5_4, x16_4, rfl, HA, HK4, HO_5, HO_7, BK564, HB⟩ := hrel
                    cases gk with
                    | zero => exact absurd HA.out (by simp [spec_Needed.l5])
                    | succ k4 =>
                     have H := HA.out
                     clear HA
                     simp only [spec_Needed.l5] at H
                     by_cases c67 : x16_4 < (x7_1.length : Int)
                     · rw [if_pos c67] at H
                       have c67b0 : decide (x16_4 < (x7_1.length : Int)) = true := decide_eq_true c67
                       clear c67
                       by_cases c68 : 0 ≤ x16_4
                       · rw [if_pos c68] at H
                         have c68b0 : decide (0 ≤ x16_4) = true := decide_eq_true c68
                         clear c68
                         by_cases c69 : (((rd_T125 x7_1 x16_4).f0) == x14_2 && (((rd_T125 x7_1 x16_4).f1) == x15_3)) = true
                         · rw [if_pos c69] at H
                           have c69b0 : (((rd_T125 x7_1 x16_4).f0) == x14_2 && (((rd_T125 x7_1 x16_4).f1) == x15_3)) = true := c69
                           (try (have c69b1 : decide (((rd_T125 x7_1 x16_4).f0) = x14_2 && (((rd_T125 x7_1 x16_4).f1) == x15_3)) = true := by simpa using c69))
                           (try (have c69b2 : (((rd_T125 x7_1 x16_4).f0) == x14_2 && (((rd_T125 x7_1 x16_4).f1) == x15_3)) = true := by simpa using c69))
                           clear c69
                           by_cases c70 : x5_4.length < 8796093022208
                           · rw [if_pos c70] at H
                             have LMc70 := Aside0.mk c70
                             clear c70
                             obtain ⟨y586, hy586⟩ : ∃ y_ : List (S125), y_ = (x5_4 ++ [(⟨(rd_T125 x7_1 x16_4).f0, (rd_T125 x7_1 x16_4).f1⟩ : S125)]) := ⟨_, rfl⟩
                             replace H : (spec_Needed.l5 k4 l0 y586 x7_1 x14_2 x15_3 (wrap64 (x16_4 + 1))) = some r := by first | (rw [hy586]; with_reducible exact H) | (have H2_ := (Option.bind_some _ _).symm.trans H; rw [hy586]; with_reducible exact H2_) | (have H2_ := (Option.bind_some _ _).symm.trans H; with_reducible exact H2_) | with_reducible exact H | (rw [hy586]; exact H) | exact H
                             have Ny586 := Aside0.mk hy586
                             clear hy586
                             have H' := Aside0.mk H
                             clear H
                             have p584 : 0 ≤ (x16_4 : Int) := of_decide_eq_true (by first | (with_reducible assumption) | assumption)
                             have q584 : x16_4 < (x7_1.length : Int) := of_decide_eq_true (by first | (with_reducible assumption) | assumption)
                             obtain ⟨ad584, e584, hx584_0, hx584_1⟩ := at_T125 (Kd.R_reads' HO_7.out).2.2 x16_4 p584 q584
                             cases e584
                             replace p584 := eq_true p584
                             replace q584 := eq_true q584
                             have p585 : 0 ≤ (x16_4 : Int) := of_decide_eq_true (by first | (with_reducible assumption) | assumption)
                             have q585 : x16_4 < (x7_1.length : Int) := of_decide_eq_true (by first | (with_reducible assumption) | assumption)
                             obtain ⟨ad585, e585, hx585_0, hx585_1⟩ := at_T125 (Kd.R_reads' HO_7.out).2.2 x16_4 p585 q585
                             obtain rfl : ad584 = ad585 := (by injection e585)
                             replace p585 := eq_true p585
                             replace q585 := eq_true q585
                             go_wp2_with (first | ((with_reducible refine gate_builtin (b := .append) (xs := #[.tmp 124, .tmp 129]) rfl ?_); at_builtin; refine Kd.R_append k125 (w0 := w) w.heap.size rfl (.tmp 124) (.tmp 129) 50 125 (.agg #[(.int .i64 0), (.int .i64 0)]) 16 rfl Try.underlying50 info125 rfl (by decide) (by omega) u5 x5_4 (⟨(rd_T125 x7_1 x16_4).f0, (rd_T125 x7_1 x16_4).f1⟩ : S125) [.int .i64 ((rd_T125 x7_1 x16_4).f0), .int .i64 ((rd_T125 x7_1 x16_4).f1)] (fun k_ => some k_ ≠ (.slice (some ad584) x7_1.length co62 : Value).ownBlock ∧ k_ ≠ gb564) (fun _ => False) rfl rfl ?aP (fun _ hk => hk.elim) ?aF ?aO ?aB ?aS ?aL ?_; (case aP => exact k125_mkM _ _ _ (⟨(rd_T125 x7_1 x16_4).f0, (rd_T125 x7_1 x16_4).f1⟩ : S125)); (case aB => exact (by repeat (first | (with_reducible first | exact HB.out | apply below_alloc | apply pw_below_drewN | apply below_drew1 | refine below_set ?_ GE564.out) | exact HB.out))); (case aF => exact (fun k_ hk => ⟨Kd.fresh' (Kd.R_lt (by (with_reducible repeat (first | apply Kd.R_alloc | apply Kd.R_drewN | apply Kd.R_drew)); exact HO_7.out)) k_ hk, Kd.freshB (g := gb564) (o := .cells #[.int .i64 t562, .int .i64 t563] 125 (0, 0)) (by (with_reducible repeat (first | refine blk_drewN ?_ _ | refine blk_drew ?_ | refine blk_alloc ?_ _)); exact BK564.out) k_ hk⟩)); (case aO => exact (by (with_reducible repeat (first | apply Kd.R_alloc | apply Kd.R_drewN | apply Kd.R_drew)); exact HO_5.out)); (case aS => exact (below_size (by repeat (first | (with_reducible first | exact HB.out | apply below_alloc | apply pw_below_drewN | apply below_drew1 | refine below_set ?_ GE564.out) | exact HB.out)))); (case aL => have := LMc70.out; omega); intro v587 w71 ho hb hg hat; rw [← Ny586.out] at ho; have n0_ := Aside0.mk (Kd.R_after (ok := (fun k_ => k_ ≠ gb564)) (by (with_reducible repeat (first | apply Kd.R_alloc | apply Kd.R_drewN | apply Kd.R_drew)); exact Kd.R_mono HO_7.out (fun _ hk => ⟨hk.2, hk.1⟩)) hg hat); have n1_ := Aside0.mk (blk_grown (g := gb564) (o := .cells #[.int .i64 t562, .int .i64 t563] 125 (0, 0)) (by (with_reducible repeat (first | refine blk_drewN ?_ _ | refine blk_drew ?_ | refine blk_alloc ?_ _)); exact BK564.out) hg (Kd.R_away HO_5.out (fun _ hk => hk.2))); have n2_ := Aside0.mk (hb); have n3_ := Aside0.mk (ho); clear HO_7; clear BK564; clear HB; clear HO_5; have HO_7 := n0_; have BK564 := n1_; have HB := n2_; have HO588 := n3_; clear n0_ n1_ n2_ n3_; clear ho hb hg hat))
                             go_roundg k4
                             case measure => have := HK1.out; have := HK2.out; have := HK3.out; have := HK4.out; omega
                             case rel => exact ⟨(y586), (wrap64 (x16_4 + 1)), (by first | rfl | (simp; done) | (simp [*]; done)), H', ⟨by have := HK1.out; have := HK2.out; have := HK3.out; have := HK4.out; omega⟩, ⟨by (with_reducible repeat (first | apply Kd.R_alloc | apply Kd.R_drewN | apply Kd.R_drew)); exact HO588.out⟩, ⟨by (with_reducible repeat (first | apply Kd.R_alloc | apply Kd.R_drewN | apply Kd.R_drew)); exact Kd.R_mono HO_7.out (fun _ hk => ⟨hk.2, hk.1⟩)⟩, ⟨by (with_reducible repeat (first | refine blk_drewN ?_ _ | refine blk_drew ?_ | refine blk_alloc ?_ _)); exact BK564.out⟩, ⟨by repeat (first | (with_reducible first | exact HB.out | apply below_alloc | apply pw_below_drewN | apply below_drew1 | refine below_set ?_ GE564.out) | exact HB.out)⟩⟩
                           · rw [if_neg c70] at H
                             exact absurd H (by simp)
                         · rw [if_neg c69] at H
                           have c69b0 : (((rd_T125 x7_1 x16_4).f0) == x14_2 && (((rd_T125 x7_1 x16_4).f1) == x15_3)) = false := by simpa using c69
                           (try (have c69b1 : decide (((rd_T125 x7_1 x16_4).f0) = x14_2 && (((rd_T125 x7_1 x16_4).f1) == x15_3)) = false := by simpa using c69))
                           (try (have c69b2 : (((rd_T125 x7_1 x16_4).f0) == x14_2 && (((rd_T125 x7_1 x16_4).f1) == x15_3)) = false := by simpa using c69))
                           (try (have c69b3 : ¬ (((rd_T125 x7_1 x16_4).f0) = x14_2 && (((rd_T125 x7_1 x16_4).f1) == x15_3)) := by simpa using c69))
                           clear c69
                           have H' := Aside0.mk H
                           clear H
                           have p584 : 0 ≤ (x16_4 : Int) := of_decide_eq_true (by first | (with_reducible assumption) | assumption)
                           have q584 : x16_4 < (x7_1.length : Int) := of_decide_eq_true (by first | (with_reducible assumption) | assumption)
                           obtain ⟨ad584, e584, hx584_0, hx584_1⟩ := at_T125 (Kd.R_reads' HO_7.out).2.2 x16_4 p584 q584
                           cases e584
                           replace p584 := eq_true p584
                           replace q584 := eq_true q584
                           go_wp2
                           go_roundg k4
                           case measure => have := HK1.out; have := HK2.out; have := HK3.out; have := HK4.out; omega
                           case rel => exact ⟨(x5_4), (wrap64 (x16_4 + 1)), (by first | rfl | (simp; done) | (simp [*]; done)), H', ⟨by have := HK1.out; have := HK2.out; have := HK3.out; have := HK4.out; omega⟩, ⟨by (with_reducible repeat (first | apply Kd.R_alloc | apply Kd.R_drewN | apply Kd.R_drew)); exact HO_5.out⟩, ⟨by (with_reducible repeat (first | apply Kd.R_alloc | apply Kd.R_drewN | apply Kd.R_drew)); exact HO_7.out⟩, ⟨by (with_reducible repeat (first | refine blk_drewN ?_ _ | refine blk_drew ?_ | refine blk_alloc ?_ _)); exact BK564.out⟩, ⟨by repeat (first | (with_reducible first | exact HB.out | apply below_alloc | apply pw_below_drewN | apply below_drew1 | refine below_set ?_ GE564.out) | exact HB.out)⟩⟩
                       · rw [if_neg c68] at H
                         exact absurd H (by simp)
                     · rw [if_neg c67] at H
                       have c67b0 : decide (x16_4 < (x7_1.length : Int)) = false := decide_eq_false c67
                       clear c67
                       have H' := Aside0.mk H
                       clear H
                       go_wp2
                       go_roundg k4
                       case measure => have := HK1.out; have := HK2.out; have := HK3.out; have := HK4.out; omega
                       case rel => exact ⟨(x5_4), (wrap64 (x15_3 + 1)), (by first | rfl | (simp; done) | (simp [*]; done)), H', ⟨by have := HK1.out; have := HK2.out; have := HK3.out; have := HK4.out; omega⟩, ⟨by (with_reducible repeat (first | apply Kd.R_alloc | apply Kd.R_drewN | apply Kd.R_drew)); exact HO_5.out⟩, ⟨by (with_reducible repeat (first | apply Kd.R_alloc | apply Kd.R_drewN | apply Kd.R_drew)); exact HO_7.out⟩, ⟨by (with_reducible repeat (first | refine blk_drewN ?_ _ | refine blk_drew ?_ | refine blk_alloc ?_ _)); exact BK564.out⟩, ⟨by repeat (first | (with_reducible first | exact HB.out | apply below_alloc | apply pw_below_drewN | apply below_drew1 | refine below_set ?_ GE564.out) | exact HB.out)⟩⟩
                 · rw [if_neg c66] at H
                   have c66b0 : decide (x15_3 < (((rd_T68 l0 x14_2).f0).length : Int)) = false := decide_eq_false c66
                   clear c66
                   have H' := Aside0.mk H
                   clear H
                   have p583 : 0 ≤ (x14_2 : Int) := of_decide_eq_true (by first | (with_reducible assumption) | assumption)
                   have q583 : x14_2 < (l0.length : Int) := of_decide_eq_true (by first | (with_reducible assumption) | assumption)
                   obtain ⟨ad583, A583_0, c583_0, e583, hx583_0, hl583_0, hi583_0⟩ := at_T68 HR0.out x14_2 p583 q583
                   cases e583
                   replace hx583_0 := (HB.out.cell (World.block_lt_of_cell? w _ hx583_0)).trans hx583_0
                   have HR583_0 := Aside0.mk hi583_0
                   have HC583_0 := Aside0.mk hl583_0
                   clear hi583_0 hl583_0
                   replace p583 := eq_true p583
                   replace q583 := eq_true q583
                   go_wp2
                   go_roundg k3
                   case measure => have := HK1.out; have := HK2.out; have := HK3.out; omega
                   case rel => exact ⟨(x5_3), (wrap64 (x14_2 + 1)), (by first | rfl | (simp; done) | (simp [*]; done)), H', ⟨by have := HK1.out; have := HK2.out; have := HK3.out; omega⟩, ⟨by (with_reducible repeat (first | apply Kd.R_alloc | apply Kd.R_drewN | apply Kd.R_drew)); exact HO_5.out⟩, ⟨by (with_reducible repeat (first | apply Kd.R_alloc | apply Kd.R_drewN | apply Kd.R_drew)); exact HO_7.out⟩, ⟨by (with_reducible repeat (first | refine blk_drewN ?_ _ | refine blk_drew ?_ | refine blk_alloc ?_ _)); exact BK564.out⟩, ⟨by repeat (first | (with_reducible first | exact HB.out | apply below_alloc | apply pw_below_drewN | apply below_drew1 | refine below_set ?_ GE564.out) | exact HB.out)⟩⟩
               · rw [if_neg c65] at H
                 exact absurd H (by simp)
             · rw [if_neg c64] at H
               exact absurd H (by simp)
         · rw [if_neg c63] at H
           have c63b0 : decide (x14_2 < (l0.length : Int)) = false := decide_eq_false c63
           clear c63
           obtain rfl := Option.some.inj H
           go_wp2
           go_ret
           exact ⟨_, by first | rfl | (simp [errW_none, errW_some] <;> rfl) | (simp [*, errW_none, errW_some] <;> rfl), by (with_reducible repeat (first | apply Kd.R_alloc | apply Kd.R_drewN | apply Kd.R_drew)); exact Kd.R_mono HO_5.out (fun _ hk => trivial), by repeat (first | (with_reducible first | exact HB.out | apply below_alloc | apply pw_below_drewN | apply below_drew1 | refine below_set ?_ GE564.out) | exact HB.out)⟩
 · replace c5 := Bool.eq_false_iff.mpr c5
   subst c5
   have H1 : (some y559) = some r := by rw [if_neg (show ¬ (false = true) by decide)] at H; exact H
   clear H
   have H := H1
   clear H1
   obtain rfl := Option.some.inj H
   go_enter Try.func34, Try.ntmps34
   go_wp2_with (first | ((with_reducible refine gate_dst (N := 17) rfl ?_); refine Kd.R_lit k125 _ 125 ?hg (N := 17) ?hd (xs := ([] : List (S125))) (inner := []) (ok := fun _ => True) (okp := fun _ => True) ?hr ?hp (fun _ hk => hk) trivial (Below.refl _ _) (Nat.le_refl _) (by simp) ?_; (case hd => rfl); (case hg => rfl); (case hr => first | (go_simp; done) | (go_simp; rfl)); (case hp => exact (Reps.none _ _)); intro v560 w72 ho73 hb hg_ hnew_; clear hg_ hnew_; (first | rw [← Ny559.out] at ho73 | (simp only [Int.reduceToNat] at ho73; rw [← Ny559.out] at ho73)); have n0_ := Aside0.mk (Kd.R_lower ho73 (below_size (by repeat (first | (with_reducible first | exact HB.out | apply below_alloc | apply pw_below_drewN | apply below_drew1) | exact HB.out)))); have n1_ := Aside0.mk (below_step (by repeat (first | (with_reducible first | exact HB.out | apply below_alloc | apply pw_below_drewN | apply below_drew1) | exact HB.out)) hb); clear HB; have HO561 := n0_; have HB := n1_; clear n0_ n1_; clear hb ho73) | ((with_reducible refine gate_callee (f := 85) rfl ?_); refine goesL_ (some 20) rfl rfl Try.func85 (by kernel_rfl) rfl #[.slice A0 l0.length c0, .int .i64 (-1), .string a1] rfl (by (try simp only [List.map_toArray, List.map_cons, List.map_nil]); first | done | rfl | (simp only [List.length_drop, List.length_take]; rfl)) ?_; (with_reducible refine (spec_l20Of.calls k (fun k_ => k_ < w.heap.size) _ _ l0 (-1) a1 t562 t563 _ ?side1 A3.out).mono ?_); (case side1 => exact Kd.V_mk HC0.out (Kd.F_below (Kd.C_F k68_heap HR0.out) (by repeat (first | (with_reducible first | exact HB.out | apply below_alloc | apply pw_below_drewN | apply below_drew1) | exact HB.out)))); rintro e w74 ⟨rfl, hb⟩; refine ⟨_, rfl, ?_⟩; have n0_ := Aside0.mk (Kd.R_below (by (with_reducible repeat (first | apply Kd.R_alloc | apply Kd.R_drewN | apply Kd.R_drew)); exact HO561.out) hb); have n1_ := Aside0.mk (below_step (by repeat (first | (with_reducible first | exact HB.out | apply below_alloc | apply pw_below_drewN | apply below_drew1) | exact HB.out)) hb); clear HO561; clear HB; have HO561 := n0_; have HB := n1_; clear n0_ n1_; (try clear hb); (try clear hb2); (try clear hk); (try clear hi)) | ((with_reducible refine gate_dst (N := 6) rfl ?_); refine box_event ?hg (N := 6) ?hd (cs := #[.int .i64 0, .int .i64 0]) (t := 125) ?hr ?_; (case hd => rfl); (case hg => rfl); (case hr => first | (go_simp; done) | (go_simp; rfl)); intro gb564 hg w75 hbox hb; have n0_ := Aside0.mk (Kd.R_below (Kd.R_elderB (by (with_reducible repeat (first | apply Kd.R_alloc | apply Kd.R_drewN | apply Kd.R_drew)); exact HO561.out) gb564 (Nat.le_of_eq hg.symm)) hb); have n1_ := Aside0.mk (below_step (by repeat (first | (with_reducible first | exact HB.out | apply below_alloc | apply pw_below_drewN | apply below_drew1) | exact HB.out)) hb); have n2_ := Aside0.mk (hbox); have n3_ := Aside0.mk ((by rw [hg]; exact (below_size (by repeat (first | (with_reducible first | exact HB.out | apply below_alloc | apply pw_below_drewN | apply below_drew1) | exact HB.out))) : w.heap.size ≤ gb564)); have n4_ := Aside0.mk ((by rw [hg]; exact (below_size (by repeat (first | (with_reducible first | exact HB.out | apply below_alloc | apply pw_below_drewN | apply below_drew1) | exact HB.out))) : w.heap.size ≤ gb564)); clear HO561; clear HB; have HO561 := n0_; have HB := n1_; have BK564 := n2_; have GW564 := n3_; have GE564 := n4_; clear n0_ n1_ n2_ n3_ n4_; clear hb hbox hg; have hcz76_0 : w75.cell? ⟨gb564, 0, none⟩ = some (.int .i64 0) := (blk_cell BK564.out 0).trans rfl; have hcz76_1 : w75.cell? ⟨gb564, 1, none⟩ = some (.int .i64 0) := (blk_cell BK564.out 1).trans rfl; have hfz76_0 := blk_frozen BK564.out 0; have hfz76_1 := blk_frozen BK564.out 1) | ((with_reducible refine gate_callee (f := 86) rfl ?_); refine goesL_ (some 23) rfl rfl Try.func86 (by kernel_rfl) rfl #[.slice A0 l0.length c0, .agg #[.int .i64 t562, .int .i64 t563]] rfl (by (try simp only [List.map_toArray, List.map_cons, List.map_nil]); first | done | rfl | (simp only [List.length_drop, List.length_take]; rfl)) ?_; (with_reducible refine (spec_l20Code.calls _ _ l0 t562 t563 false _ ?side1 ?side2 A4.out).mono ?_); (case side1 => exact Kd.C_below HR0.out (by repeat (first | (with_reducible first | exact HB.out | apply below_alloc | apply pw_below_drewN | apply below_drew1 | refine below_set ?_ GE564.out) | exact HB.out))); (case side2 => exact HC0.out); rintro e w77 ⟨rfl, hb⟩; refine ⟨_, rfl, ?_⟩; have n0_ := Aside0.mk (Kd.R_below (by (with_reducible repeat (first | apply Kd.R_alloc | apply Kd.R_drewN | apply Kd.R_drew)); exact (Kd.R_mono (Kd.R_far (p := ⟨gb564, 1, none⟩) (Kd.R_far (p := ⟨gb564, 0, none⟩) (Kd.R_mono HO561.out (fun k_ hk => (⟨hk, hk.2⟩ : _ ∧ k_ ≠ gb564))) (fun _ hk => hk.2) (.int .i64 t562)) (fun _ hk => hk.2) (.int .i64 t563)) (fun _ h_ => h_.1))) hb); have n1_ := Aside0.mk (blk_below (g := gb564) (o := .cells #[.int .i64 t562, .int .i64 t563] 125 (0, 0)) (by (with_reducible repeat (first | refine blk_drewN ?_ _ | refine blk_drew ?_ | refine blk_alloc ?_ _)); refine blk_put (cs := #[.int .i64 t562, .int .i64 0]) ?_ 1 _ rfl; (with_reducible repeat (first | refine blk_drewN ?_ _ | refine blk_drew ?_ | refine blk_alloc ?_ _)); refine blk_put (cs := #[.int .i64 0, .int .i64 0]) ?_ 0 _ rfl; (with_reducible repeat (first | refine blk_drewN ?_ _ | refine blk_drew ?_ | refine blk_alloc ?_ _)); exact BK564.out) hb); have n2_ := Aside0.mk (below_step (by repeat (first | (with_reducible first | exact HB.out | apply below_alloc | apply pw_below_drewN | apply below_drew1 | refine below_set ?_ GE564.out) | exact HB.out)) hb); clear HO561; clear BK564; clear HB; have HO561 := n0_; have BK564 := n1_; have HB := n2_; clear n0_ n1_ n2_; (try clear hb); (try clear hb2); (try clear hk); (try clear hi)))
   go_ret
   exact ⟨_, by first | rfl | (simp [errW_none, errW_some] <;> rfl) | (simp [*, errW_none, errW_some] <;> rfl), by (with_reducible repeat (first | apply Kd.R_alloc | apply Kd.R_drewN | apply Kd.R_drew)); exact Kd.R_mono HO561.out (fun _ hk => trivial), by repeat (first | (with_reducible first | exact HB.out | apply below_alloc | apply pw_below_drewN | apply below_drew1 | refine below_set ?_ GE564.out) | exact HB.out)⟩

end Go.Proofs.Ythegbhfoleiegaa.All

