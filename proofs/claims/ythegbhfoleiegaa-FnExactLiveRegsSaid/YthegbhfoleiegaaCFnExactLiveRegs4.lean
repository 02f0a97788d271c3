/- Part 4 of the proof of FnExactLiveRegs: functions of the translation with what they return, and plain laws of these. Written by programs of this session over the kit's print, and by hand. -/
import Derived.Test.YthegbhfoleiegaaProg
import Derived.Test.YthegbhfoleiegaaCFnExactLiveRegsWApart
import Derived.Test.YthegbhfoleiegaaCFnExactLiveRegsWArr
import Derived.Test.YthegbhfoleiegaaCFnExactLiveRegsWAt
import Derived.Test.YthegbhfoleiegaaCFnExactLiveRegsWFoot
import Derived.Test.YthegbhfoleiegaaCFnExactLiveRegsWFootNe
import Derived.Test.YthegbhfoleiegaaCFnExactLiveRegsWGuard
import Derived.Test.YthegbhfoleiegaaCFnExactLiveRegsWInv
import Derived.Test.YthegbhfoleiegaaCFnExactLiveRegsWKept
import Derived.Test.YthegbhfoleiegaaCFnExactLiveRegsWLast
import Derived.Test.YthegbhfoleiegaaCFnExactLiveRegsWMore
import Derived.Test.YthegbhfoleiegaaCFnExactLiveRegsWN
import Derived.Test.YthegbhfoleiegaaCFnExactLiveRegsWNEv
import Derived.Test.YthegbhfoleiegaaCFnExactLiveRegsWQPut
import Derived.Test.YthegbhfoleiegaaCFnExactLiveRegsWRepsOne
import Derived.Test.YthegbhfoleiegaaCFnExactLiveRegsWShare
import Derived.Test.YthegbhfoleiegaaCFnExactLiveRegsWTab
import Derived.Test.YthegbhfoleiegaaCFnExactLiveRegsWWords
import Derived.Test.YthegbhfoleiegaaCFnExactLiveRegsWZeros
import Derived.Below
import Derived.Deep.Draws
import Derived.Deep.AppendLies
import Derived.Maps.AppendAt
import Derived.OwnWalk
import Derived.Laws.BytesArg
import Derived.Laws.MakeOwn
import Derived.Laws.OwnMore
import Derived.Deep.OwnRows
import Derived.Tactics
import Derived.Lib.ConvBytes
import Derived.Laws.Slices
import Derived.WalkKit
import Derived.KernelRfl
import Derived.RowKit3
import Derived.Deep.LoopGhost
import Derived.Deep.QuietTactic
import Derived.BigQuiet
import Derived.WideLaws
import Derived.Deep.DeepCutAuto
import Derived.Deep.CutBlock
import Derived.Deep.RegionHeld3
import Derived.Laws.Rows
import Derived.Lib.AppendStr
import Derived.ArgAppend
import Derived.Laws.IdiomCopy
import Derived.OrdersHeld
import Derived.Laws.BitsLemmas
import Derived.RowKit
import Derived.Laws.CopyOwn
import Derived.Maps.OwnSet
import Derived.Maps.OwnOps
import Derived.Maps.RangeWalk
import Derived.Shelf.GgSortFunc.Whole
import Derived.Shelf.GgSortFunc.Tiny
import Derived.Sort.OwnSortedInts
import Derived.Lib.RowBridge
import Derived.Lib.SortBridge
import Derived.Sort.LotA
import Derived.Deep.Slices
import Derived.ChangeArms
import Derived.ProofKit
import Derived.OpenShut
import Derived.ShutString
import Derived.ChangeOld
import Derived.SizedLaws
import Derived.Test.YthegbhfoleiegaaCFnExactLiveRegs1
import Derived.Test.YthegbhfoleiegaaCFnExactLiveRegs2
import Derived.Test.YthegbhfoleiegaaCFnExactLiveRegs3
namespace Go.Proofs.Ythegbhfoleiegaa.All
open Go.RowKit Go.Proofs.YthegbhfoleiegaaW.PrintWords Go.Proofs.YthegbhfoleiegaaW.PrintLast Go.Proofs.YthegbhfoleiegaaW.PrintMore
attribute [local go_sem] max2_int min2_int max_two min_two max_three min_three max_four min_four   -- for this text's walks alone
set_option linter.unusedVariables false
set_option linter.unusedSimpArgs false

def laws_FnExactLiveRegs.j0 : Nat → Int → List Int → List Int → Bool → Int → List Int → List (S165) → Option (Bool)
 | 0, _, _, _, _, _, _, _ => none
 | k + 1, x1, x6, x8, x46, x862000, x862001, x862002 => if x46 = true then (some false) else ((laws_markInt64S.f k x8 1).bind fun bt895 => ((laws_heldInt64S.f k bt895.2 1).bind fun t897 => (if t897 < 0 then (some false) else (if t897 = bt895.1 then ((laws_toVFunc.f k x862000 x862001 x862002).bind fun bt898 => ((impl_LiveRegs.f k bt898.1 bt898.2.1 bt898.2.2 x1).bind fun t905 => ((laws_eqInt64S.f k t905 x6).bind fun t908 => (if t908 = true then ((laws_heldInt64S.f k bt895.2 1).bind fun t909 => (if t909 < 0 then (some false) else (if t909 = bt895.1 then (some true) else (some false)))) else (some false))))) else (some false)))))
def laws_FnExactLiveRegs.f (k : Nat) (a0_0 : Int) (l0_1 : List Int) (l0_2 : List (S165)) (a1 : Int) : Option (Bool) := (laws_szVFunc.f k a0_0 l0_1 l0_2 1048576).bind fun t862 => (if t862 < 0 then (some true) else ((laws_toVFunc.f k a0_0 l0_1 l0_2).bind fun bt863 => ((spec_LiveRegs.f k bt863.1 bt863.2.1 bt863.2.2 a1).bind fun t870 => ((laws_toVFunc.f k a0_0 l0_1 l0_2).bind fun bt873 => ((impl_LiveRegs.f k bt873.1 bt873.2.1 bt873.2.2 a1).bind fun t881 => ((laws_eqInt64S.f k t881 t870).bind fun t884 => (if t884 = true then ((laws_toVFunc.f k a0_0 l0_1 l0_2).bind fun bt885 => ((laws_eqVFunc.f k bt873.1 bt873.2.1 bt873.2.2 bt885.1 bt885.2.1 bt885.2.2).bind fun t892 => (if t892 = true then ((laws_markVFunc.f bt873.1 bt873.2.1 bt873.2.2 1).bind fun t893 => (if t893 < 0 then (laws_FnExactLiveRegs.j0 k a1 t870 t881 true a0_0 l0_1 l0_2) else ((laws_eqInt64S.f k t881 t870).bind fun t894 => (laws_FnExactLiveRegs.j0 k a1 t870 t881 (!t894) a0_0 l0_1 l0_2)))) else (some false)))) else (some false))))))))
set_option maxHeartbeats 8000000 in
set_option maxRecDepth 100000 in
theorem laws_FnExactLiveRegs.calls (k : Nat) (a0_0 : Int) (A0_1 : Option Addr) (c0_1 : Nat) (l0_1 : List Int) (A0_2 : Option Addr) (c0_2 : Nat) (l0_2 : List (S165)) (a1 : Int) (r : Bool) (w : World) (hr0_1 : Kd.C (Kd.int .i64) w A0_1 l0_1.length l0_1) (hc0_1 : l0_1.length ≤ c0_1) (hr0_2 : Kd.C k165 w A0_2 l0_2.length l0_2) (hc0_2 : l0_2.length ≤ c0_2) (h : laws_FnExactLiveRegs.f k a0_0 l0_1 l0_2 a1 = some r) :
 Calls Try.prog 4 #[.agg #[.int .i64 a0_0, .slice A0_1 l0_1.length c0_1, .slice A0_2 l0_2.length c0_2], .int .i64 a1] w fun e w' => e = .returned (.bool r) ∧ Below w.heap.size w w' := by
 have hu25 := Try.underlying25
 have hu29 := Try.underlying29
 have HR0_1 := Aside0.mk hr0_1
 have HC0_1 := Aside0.mk hc0_1
 clear hr0_1 hc0_1
 have HR0_2 := Aside0.mk hr0_2
 have HC0_2 := Aside0.mk hc0_2
 clear hr0_2 hc0_2
 have HB := Aside0.mk (Below.refl w.heap.size w)
 have H : ((laws_szVFunc.f k a0_0 l0_1 l0_2 1048576).bind fun t862 => (if t862 < 0 then (some true) else ((laws_toVFunc.f k a0_0 l0_1 l0_2).bind fun bt863 => ((spec_LiveRegs.f k bt863.1 bt863.2.1 bt863.2.2 a1).bind fun t870 => ((laws_toVFunc.f k a0_0 l0_1 l0_2).bind fun bt873 => ((impl_LiveRegs.f k bt873.1 bt873.2.1 bt873.2.2 a1).bind fun t881 => ((laws_eqInt64S.f k t881 t870).bind fun t884 => (if t884 = true then ((laws_toVFunc.f k a0_0 l0_1 l0_2).bind fun bt885 => ((laws_eqVFunc.f k bt873.1 bt873.2.1 bt873.2.2 bt885.1 bt885.2.1 bt885.2.2).bind fun t892 => (if t892 = true then ((laws_markVFunc.f bt873.1 bt873.2.1 bt873.2.2 1).bind fun t893 => (if t893 < 0 then (laws_FnExactLiveRegs.j0 k a1 t870 t881 true a0_0 l0_1 l0_2) else ((laws_eqInt64S.f k t881 t870).bind fun t894 => (laws_FnExactLiveRegs.j0 k a1 t870 t881 (!t894) a0_0 l0_1 l0_2)))) else (some false)))) else (some false))))))))) = some r := h
 clear h
 replace H := Option.bind_eq_some_iff.mp H
 obtain ⟨t862, A30, H⟩ := H
 replace H : (if t862 < 0 then (some true) else ((laws_toVFunc.f k a0_0 l0_1 l0_2).bind fun bt863 => ((spec_LiveRegs.f k bt863.1 bt863.2.1 bt863.2.2 a1).bind fun t870 => ((laws_toVFunc.f k a0_0 l0_1 l0_2).bind fun bt873 => ((impl_LiveRegs.f k bt873.1 bt873.2.1 bt873.2.2 a1).bind fun t881 => ((laws_eqInt64S.f k t881 t870).bind fun t884 => (if t884 = true then ((laws_toVFunc.f k a0_0 l0_1 l0_2).bind fun bt885 => ((laws_eqVFunc.f k bt873.1 bt873.2.1 bt873.2.2 bt885.1 bt885.2.1 bt885.2.2).bind fun t892 => (if t892 = true then ((laws_markVFunc.f bt873.1 bt873.2.1 bt873.2.2 1).bind fun t893 => (if t893 < 0 then (laws_FnExactLiveRegs.j0 k a1 t870 t881 true a0_0 l0_1 l0_2) else ((laws_eqInt64S.f k t881 t870).bind fun t894 => (laws_FnExactLiveRegs.j0 k a1 t870 t881 (!t894) a0_0 l0_1 l0_2)))) else (some false)))) else (some false)))))))) = some r := H
 have A3 := Aside0.mk A30
 clear A30
 by_cases c4 : t862 < 0
 · rw [if_pos c4] at H
   have c4b0 : decide (t862 < 0) = true := decide_eq_true c4
   clear c4
   obtain rfl := Option.some.inj H
   go_enter Try.func4, Try.ntmps4
   go_wp2_with (first | ((with_reducible refine gate_dst (N := 2) rfl ?_); refine box_event ?hg (N := 2) ?hd (cs := #[.int .i64 a0_0, .slice A0_1 l0_1.length c0_1, .slice A0_2 l0_2.length c0_2]) (t := 25) ?hr ?_; (case hd => rfl); (case hg => rfl); (case hr => first | (go_simp; done) | (go_simp; rfl)); intro gb861 hg w5 hbox hb; have n0_ := Aside0.mk (below_step bz hb); have n1_ := Aside0.mk (hbox); have n2_ := Aside0.mk ((by rw [hg]; exact (below_size bz) : w.heap.size ≤ gb861)); have n3_ := Aside0.mk ((by rw [hg]; exact (below_size bz) : w.heap.size ≤ gb861)); clear HB; have HB := n0_; have BK861 := n1_; have GW861 := n2_; have GE861 := n3_; clear n0_ n1_ n2_ n3_; clear hb hbox hg; have hcz6_0 : w5.cell? ⟨gb861, 0, none⟩ = some (.int .i64 a0_0) := (blk_cell BK861.out 0).trans rfl; have hcz6_1 : w5.cell? ⟨gb861, 1, none⟩ = some (.slice A0_1 l0_1.length c0_1) := (blk_cell BK861.out 1).trans rfl; have hcz6_2 : w5.cell? ⟨gb861, 2, none⟩ = some (.slice A0_2 l0_2.length c0_2) := (blk_cell BK861.out 2).trans rfl; have hfz6_0 := blk_frozen BK861.out 0; have hfz6_1 := blk_frozen BK861.out 1; have hfz6_2 := blk_frozen BK861.out 2) | ((with_reducible refine gate_callee (f := 11) rfl ?_); refine goesL_ (some 15) rfl rfl Try.func11 (by kernel_rfl) rfl #[.agg #[.int .i64 a0_0, .slice A0_1 l0_1.length c0_1, .slice A0_2 l0_2.length c0_2], .int .i64 1048576] rfl lz ?_; (with_reducible refine (laws_szVFunc.calls k a0_0 _ _ l0_1 _ _ l0_2 1048576 t862 _ ?side1 ?side2 ?side3 ?side4 A3.out).mono ?_); (case side1 => exact cz HR0_1.out); (case side2 => exact HC0_1.out); (case side3 => exact cz HR0_2.out); (case side4 => exact HC0_2.out); rintro e w7 ⟨rfl, hb⟩; refine ⟨_, rfl, ?_⟩; have n0_ := Aside0.mk (blk_below (g := gb861) (o := .cells #[.int .i64 a0_0, .slice A0_1 l0_1.length c0_1, .slice A0_2 l0_2.length c0_2] 25 (0, 0)) kz hb); have n1_ := Aside0.mk (below_step bz hb); clear BK861; clear HB; have BK861 := n0_; have HB := n1_; clear n0_ n1_; (try clear hb); (try clear hb2); (try clear hk); (try clear hi)))
   go_ret
   exact ⟨by first | rfl | (simp [errW_none, errW_some] <;> rfl) | (simp [*, errW_none, errW_some] <;> rfl), bz⟩
 · rw [if_neg c4] at H
   have c4b0 : decide (t862 < 0) = false := decide_eq_false c4
   clear c4
   replace H := Option.bind_eq_some_iff.mp H
   obtain ⟨⟨t863, t864, t867⟩, A80, H⟩ := H
   replace H : ((spec_LiveRegs.f k t863 t864 t867 a1).bind fun t870 => ((laws_toVFunc.f k a0_0 l0_1 l0_2).bind fun bt873 => ((impl_LiveRegs.f k bt873.1 bt873.2.1 bt873.2.2 a1).bind fun t881 => ((laws_eqInt64S.f k t881 t870).bind fun t884 => (if t884 = true then ((laws_toVFunc.f k a0_0 l0_1 l0_2).bind fun bt885 => ((laws_eqVFunc.f k bt873.1 bt873.2.1 bt873.2.2 bt885.1 bt885.2.1 bt885.2.2).bind fun t892 => (if t892 = true then ((laws_markVFunc.f bt873.1 bt873.2.1 bt873.2.2 1).bind fun t893 => (if t893 < 0 then (laws_FnExactLiveRegs.j0 k a1 t870 t881 true a0_0 l0_1 l0_2) else ((laws_eqInt64S.f k t881 t870).bind fun t894 => (laws_FnExactLiveRegs.j0 k a1 t870 t881 (!t894) a0_0 l0_1 l0_2)))) else (some false)))) else (some false)))))) = some r := H
   have A8 := Aside0.mk A80
   clear A80
   replace H := Option.bind_eq_some_iff.mp H
   obtain ⟨t870, A90, H⟩ := H
   replace H : ((laws_toVFunc.f k a0_0 l0_1 l0_2).bind fun bt873 => ((impl_LiveRegs.f k bt873.1 bt873.2.1 bt873.2.2 a1).bind fun t881 => ((laws_eqInt64S.f k t881 t870).bind fun t884 => (if t884 = true then ((laws_toVFunc.f k a0_0 l0_1 l0_2).bind fun bt885 => ((laws_eqVFunc.f k bt873.1 bt873.2.1 bt873.2.2 bt885.1 bt885.2.1 bt885.2.2).bind fun t892 => (if t892 = true then ((laws_markVFunc.f bt873.1 bt873.2.1 bt873.2.2 1).bind fun t893 => (if t893 < 0 then (laws_FnExactLiveRegs.j0 k a1 t870 t881 true a0_0 l0_1 l0_2) else ((laws_eqInt64S.f k t881 t870).bind fun t894 => (laws_FnExactLiveRegs.j0 k a1 t870 t881 (!t894) a0_0 l0_1 l0_2)))) else (some false)))) else (some false))))) = some r := H
   have A9 := Aside0.mk A90
   clear A90
   replace H := Option.bind_eq_some_iff.mp H
   obtain ⟨⟨t873, t874, t877⟩, A100, H⟩ := H
   replace H : ((impl_LiveRegs.f k t873 t874 t877 a1).bind fun t881 => ((laws_eqInt64S.f k t881 t870).bind fun t884 => (if t884 = true then ((laws_toVFunc.f k a0_0 l0_1 l0_2).bind fun bt885 => ((laws_eqVFunc.f k t873 t874 t877 bt885.1 bt885.2.1 bt885.2.2).bind fun t892 => (if t892 = true then ((laws_markVFunc.f t873 t874 t877 1).bind fun t893 => (if t893 < 0 then (laws_FnExactLiveRegs.j0 k a1 t870 t881 true a0_0 l0_1 l0_2) else ((laws_eqInt64S.f k t881 t870).bind fun t894 => (laws_FnExactLiveRegs.j0 k a1 t870 t881 (!t894) a0_0 l0_1 l0_2)))) else (some false)))) else (some false)))) = some r := H
   have A10 := Aside0.mk A100
   clear A100
   replace H := Option.bind_eq_some_iff.mp H
   obtain ⟨t881, A110, H⟩ := H
   replace H : ((laws_eqInt64S.f k t881 t870).bind fun t884 => (if t884 = true then ((laws_toVFunc.f k a0_0 l0_1 l0_2).bind fun bt885 => ((laws_eqVFunc.f k t873 t874 t877 bt885.1 bt885.2.1 bt885.2.2).bind fun t892 => (if t892 = true then ((laws_markVFunc.f t873 t874 t877 1).bind fun t893 => (if t893 < 0 then (laws_FnExactLiveRegs.j0 k a1 t870 t881 true a0_0 l0_1 l0_2) else ((laws_eqInt64S.f k t881 t870).bind fun t894 => (laws_FnExactLiveRegs.j0 k a1 t870 t881 (!t894) a0_0 l0_1 l0_2)))) else (some false)))) else (some false))) = some r := H
   have A11 := Aside0.mk A110
   clear A110
   replace H := Option.bind_eq_some_iff.mp H
   obtain ⟨t884, A120, H⟩ := H
   replace H : (if t884 = true then ((laws_toVFunc.f k a0_0 l0_1 l0_2).bind fun bt885 => ((laws_eqVFunc.f k t873 t874 t877 bt885.1 bt885.2.1 bt885.2.2).bind fun t892 => (if t892 = true then ((laws_markVFunc.f t873 t874 t877 1).bind fun t893 => (if t893 < 0 then (laws_FnExactLiveRegs.j0 k a1 t870 t881 true a0_0 l0_1 l0_2) else ((laws_eqInt64S.f k t881 t870).bind fun t894 => (laws_FnExactLiveRegs.j0 k a1 t870 t881 (!t894) a0_0 l0_1 l0_2)))) else (some false)))) else (some false)) = some r := H
   have A12 := Aside0.mk A120
   clear A120
   by_cases c13 : t884 = true
   · subst c13
     have H1 : ((laws_toVFunc.f k a0_0 l0_1 l0_2).bind fun bt885 => ((laws_eqVFunc.f k t873 t874 t877 bt885.1 bt885.2.1 bt885.2.2).bind fun t892 => (if t892 = true then ((laws_markVFunc.f t873 t874 t877 1).bind fun t893 => (if t893 < 0 then (laws_FnExactLiveRegs.j0 k a1 t870 t881 true a0_0 l0_1 l0_2) else ((laws_eqInt64S.f k t881 t870).bind fun t894 => (laws_FnExactLiveRegs.j0 k a1 t870 t881 (!t894) a0_0 l0_1 l0_2)))) else (some false)))) = some r := by rw [if_pos rfl] at H; exact H
     clear H
     have H := H1
     clear H1
     replace H := Option.bind_eq_some_iff.mp H
     obtain ⟨⟨t885, t886, t889⟩, A140, H⟩ := H
     replace H : ((laws_eqVFunc.f k t873 t874 t877 t885 t886 t889).bind fun t892 => (if t892 = true then ((laws_markVFunc.f t873 t874 t877 1).bind fun t893 => (if t893 < 0 then (laws_FnExactLiveRegs.j0 k a1 t870 t881 true a0_0 l0_1 l0_2) else ((laws_eqInt64S.f k t881 t870).bind fun t894 => (laws_FnExactLiveRegs.j0 k a1 t870 t881 (!t894) a0_0 l0_1 l0_2)))) else (some false))) = some r := H
     have A14 := Aside0.mk A140
     clear A140
     replace H := Option.bind_eq_some_iff.mp H
     obtain ⟨t892, A150, H⟩ := H
     replace H : (if t892 = true then ((laws_markVFunc.f t873 t874 t877 1).bind fun t893 => (if t893 < 0 then (laws_FnExactLiveRegs.j0 k a1 t870 t881 true a0_0 l0_1 l0_2) else ((laws_eqInt64S.f k t881 t870).bind fun t894 => (laws_FnExactLiveRegs.j0 k a1 t870 t881 (!t894) a0_0 l0_1 l0_2)))) else (some false)) = some r := H
     have A15 := Aside0.mk A150
     clear A150
     by_cases c16 : t892 = true
     · subst c16
       have H1 : ((laws_markVFunc.f t873 t874 t877 1).bind fun t893 => (if t893 < 0 then (laws_FnExactLiveRegs.j0 k a1 t870 t881 true a0_0 l0_1 l0_2) else ((laws_eqInt64S.f k t881 t870).bind fun t894 => (laws_FnExactLiveRegs.j0 k a1 t870 t881 (!t894) a0_0 l0_1 l0_2)))) = some r := by rw [if_pos rfl] at H; exact H
       clear H
       have H := H1
       clear H1
       replace H := Option.bind_eq_some_iff.mp H
       obtain ⟨t893, A170, H⟩ := H
       replace H : (if t893 < 0 then (laws_FnExactLiveRegs.j0 k a1 t870 t881 true a0_0 l0_1 l0_2) else ((laws_eqInt64S.f k t881 t870).bind fun t894 => (laws_FnExactLiveRegs.j0 k a1 t870 t881 (!t894) a0_0 l0_1 l0_2))) = some r := H
       have A17 := Aside0.mk A170
       clear A170
       have HC18 := Aside0.mk H
       clear H
       go_enter Try.func4, Try.ntmps4
       try go_wp2_with (first | ((with_reducible refine gate_dst (N := 2) rfl ?_); refine box_event ?hg (N := 2) ?hd (cs := #[.int .i64 a0_0, .slice A0_1 l0_1.length c0_1, .slice A0_2 l0_2.length c0_2]) (t := 25) ?hr ?_; (case hd => rfl); (case hg => rfl); (case hr => first | (go_simp; done) | (go_simp; rfl)); intro gb861 hg w19 hbox hb; have n0_ := Aside0.mk (below_step bz hb); have n1_ := Aside0.mk (hbox); have n2_ := Aside0.mk ((by rw [hg]; exact (below_size bz) : w.heap.size ≤ gb861)); have n3_ := Aside0.mk ((by rw [hg]; exact (below_size bz) : w.heap.size ≤ gb861)); clear HB; have HB := n0_; have BK861 := n1_; have GW861 := n2_; have GE861 := n3_; clear n0_ n1_ n2_ n3_; clear hb hbox hg; have hcz20_0 : w19.cell? ⟨gb861, 0, none⟩ = some (.int .i64 a0_0) := (blk_cell BK861.out 0).trans rfl; have hcz20_1 : w19.cell? ⟨gb861, 1, none⟩ = some (.slice A0_1 l0_1.length c0_1) := (blk_cell BK861.out 1).trans rfl; have hcz20_2 : w19.cell? ⟨gb861, 2, none⟩ = some (.slice A0_2 l0_2.length c0_2) := (blk_cell BK861.out 2).trans rfl; have hfz20_0 := blk_frozen BK861.out 0; have hfz20_1 := blk_frozen BK861.out 1; have hfz20_2 := blk_frozen BK861.out 2) | ((with_reducible refine gate_callee (f := 11) rfl ?_); refine goesL_ (some 15) rfl rfl Try.func11 (by kernel_rfl) rfl #[.agg #[.int .i64 a0_0, .slice A0_1 l0_1.length c0_1, .slice A0_2 l0_2.length c0_2], .int .i64 1048576] rfl lz ?_; (with_reducible refine (laws_szVFunc.calls k a0_0 _ _ l0_1 _ _ l0_2 1048576 t862 _ ?side1 ?side2 ?side3 ?side4 A3.out).mono ?_); (case side1 => exact cz HR0_1.out); (case side2 => exact HC0_1.out); (case side3 => exact cz HR0_2.out); (case side4 => exact HC0_2.out); rintro e w21 ⟨rfl, hb⟩; refine ⟨_, rfl, ?_⟩; have n0_ := Aside0.mk (blk_below (g := gb861) (o := .cells #[.int .i64 a0_0, .slice A0_1 l0_1.length c0_1, .slice A0_2 l0_2.length c0_2] 25 (0, 0)) kz hb); have n1_ := Aside0.mk (below_step bz hb); clear BK861; clear HB; have BK861 := n0_; have HB := n1_; clear n0_ n1_; (try clear hb); (try clear hb2); (try clear hk); (try clear hi); have hcz22_0 : w21.cell? ⟨gb861, 0, none⟩ = some (.int .i64 a0_0) := (blk_cell BK861.out 0).trans rfl; have hcz22_1 : w21.cell? ⟨gb861, 1, none⟩ = some (.slice A0_1 l0_1.length c0_1) := (blk_cell BK861.out 1).trans rfl; have hcz22_2 : w21.cell? ⟨gb861, 2, none⟩ = some (.slice A0_2 l0_2.length c0_2) := (blk_cell BK861.out 2).trans rfl; have hfz22_0 := blk_frozen BK861.out 0; have hfz22_1 := blk_frozen BK861.out 1; have hfz22_2 := blk_frozen BK861.out 2) | ((with_reducible refine gate_callee (f := 13) rfl ?_); refine goesL_ (some 19) rfl rfl Try.func13 (by kernel_rfl) rfl #[.agg #[.int .i64 a0_0, .slice A0_1 l0_1.length c0_1, .slice A0_2 l0_2.length c0_2]] rfl lz ?_; (with_reducible refine (laws_toVFunc.calls k a0_0 _ _ l0_1 _ _ l0_2 t863 t864 t867 _ ?side1 ?side2 ?side3 ?side4 A8.out).mono ?_); (case side1 => exact cz HR0_1.out); (case side2 => exact HC0_1.out); (case side3 => exact cz HR0_2.out); (case side4 => exact HC0_2.out); rintro e w23 ⟨v865, v868, rfl, ho0, ho1, hb⟩; refine ⟨_, rfl, ?_⟩; have n0_ := Aside0.mk (Kd.R_lower ho0 (below_size bz)); have n1_ := Aside0.mk (Kd.R_lower ho1 (below_size bz)); have n2_ := Aside0.mk (blk_below (g := gb861) (o := .cells #[.int .i64 a0_0, .slice A0_1 l0_1.length c0_1, .slice A0_2 l0_2.length c0_2] 25 (0, 0)) kz hb); have n3_ := Aside0.mk (below_step bz hb); clear BK861; clear HB; have HO866 := n0_; have HO869 := n1_; have BK861 := n2_; have HB := n3_; clear n0_ n1_ n2_ n3_; (try clear hb); (try clear hb2); (try clear hk); (try clear hi); (try clear ho0); (try clear ho1); obtain ⟨Ao24, co24, eo24⟩ := Kd.R_slice HO866.out; subst eo24; obtain ⟨Ao25, co25, eo25⟩ := Kd.R_slice HO869.out; subst eo25) | ((with_reducible refine gate_callee (f := 18) rfl ?_); refine goesL_ (some 21) rfl rfl Try.func18 (by kernel_rfl) rfl #[.agg #[.int .i64 t863, .slice Ao24 t864.length co24, .slice Ao25 t867.length co25], .int .i64 a1] rfl lz ?_; (with_reducible refine (spec_LiveRegs.calls k t863 _ _ t864 _ _ t867 a1 t870 _ ?side1 ?side2 ?side3 ?side4 A9.out).mono ?_); (case side1 => repeat (first | exact (Kd.R_reads' HO866.out).2.2 | (with_reducible refine Kd.C_alloc ?_ _) | (with_reducible refine Kd.C_drewN ?_ _) | (with_reducible refine Kd.C_drew ?_))); (case side2 => exact (Kd.R_reads' HO866.out).2.1); (case side3 => repeat (first | exact (Kd.R_reads' HO869.out).2.2 | (with_reducible refine Kd.C_alloc ?_ _) | (with_reducible refine Kd.C_drewN ?_ _) | (with_reducible refine Kd.C_drew ?_))); (case side4 => exact (Kd.R_reads' HO869.out).2.1); rintro e w26 ⟨v871, rfl, ho0, hb⟩; refine ⟨_, rfl, ?_⟩; have n0_ := Aside0.mk (Kd.R_elder' (rz HO866.out) (Kd.R_base ho0) hb); have n1_ := Aside0.mk (Kd.R_elder' (rz HO869.out) (Kd.R_base ho0) hb); have n2_ := Aside0.mk (Kd.R_lower (Kd.R_new' ho0 (Kd.R_lt (rz HO866.out))) (below_size bz)); have n3_ := Aside0.mk (blk_below (g := gb861) (o := .cells #[.int .i64 a0_0, .slice A0_1 l0_1.length c0_1, .slice A0_2 l0_2.length c0_2] 25 (0, 0)) kz hb); have n4_ := Aside0.mk (below_step bz hb); clear HO866; clear HO869; clear BK861; clear HB; have HO866 := n0_; have HO869 := n1_; have HO872 := n2_; have BK861 := n3_; have HB := n4_; clear n0_ n1_ n2_ n3_ n4_; (try clear hb); (try clear hb2); (try clear hk); (try clear hi); (try clear ho0); have hcz27_0 : w26.cell? ⟨gb861, 0, none⟩ = some (.int .i64 a0_0) := (blk_cell BK861.out 0).trans rfl; have hcz27_1 : w26.cell? ⟨gb861, 1, none⟩ = some (.slice A0_1 l0_1.length c0_1) := (blk_cell BK861.out 1).trans rfl; have hcz27_2 : w26.cell? ⟨gb861, 2, none⟩ = some (.slice A0_2 l0_2.length c0_2) := (blk_cell BK861.out 2).trans rfl; have hfz27_0 := blk_frozen BK861.out 0; have hfz27_1 := blk_frozen BK861.out 1; have hfz27_2 := blk_frozen BK861.out 2) | ((with_reducible refine gate_callee (f := 13) rfl ?_); refine goesL_ (some 23) rfl rfl Try.func13 (by kernel_rfl) rfl #[.agg #[.int .i64 a0_0, .slice A0_1 l0_1.length c0_1, .slice A0_2 l0_2.length c0_2]] rfl lz ?_; (with_reducible refine (laws_toVFunc.calls k a0_0 _ _ l0_1 _ _ l0_2 t873 t874 t877 _ ?side1 ?side2 ?side3 ?side4 A10.out).mono ?_); (case side1 => exact cz HR0_1.out); (case side2 => exact HC0_1.out); (case side3 => exact cz HR0_2.out); (case side4 => exact HC0_2.out); rintro e w28 ⟨v875, v878, rfl, ho0, ho1, hb⟩; refine ⟨_, rfl, ?_⟩; have n0_ := Aside0.mk (Kd.R_elder' (rz HO866.out) (Kd.R_base ho0) hb); have n1_ := Aside0.mk (Kd.R_mono (Kd.R_told (Kd.R_told (Kd.R_old (rz HO869.out) hb) (Kd.R_base ho0)) (Kd.R_base ho1)) (fun _ h_ => h_.1)); have n2_ := Aside0.mk (Kd.R_elder' (rz HO872.out) (Kd.R_base ho0) hb); have n3_ := Aside0.mk (Kd.R_lower (Kd.R_new' (Kd.R_new' ho0 (Kd.R_lt (rz HO866.out))) (Kd.R_lt (rz HO872.out))) (below_size bz)); have n4_ := Aside0.mk (Kd.R_lower (Kd.R_new' (Kd.R_new' (Kd.R_new' ho1 (Kd.R_lt (rz HO866.out))) (Kd.R_lt (rz HO869.out))) (Kd.R_lt (rz HO872.out))) (below_size bz)); have n5_ := Aside0.mk (blk_below (g := gb861) (o := .cells #[.int .i64 a0_0, .slice A0_1 l0_1.length c0_1, .slice A0_2 l0_2.length c0_2] 25 (0, 0)) kz hb); have n6_ := Aside0.mk (below_step bz hb); clear HO866; clear HO869; clear HO872; clear BK861; clear HB; have HO866 := n0_; have HO869 := n1_; have HO872 := n2_; have HO876 := n3_; have HO879 := n4_; have BK861 := n5_; have HB := n6_; clear n0_ n1_ n2_ n3_ n4_ n5_ n6_; (try clear hb); (try clear hb2); (try clear hk); (try clear hi); (try clear ho0); (try clear ho1)) | ((with_reducible refine gate_dst (N := 7) rfl ?_); refine box_event ?hg (N := 7) ?hd (cs := #[.int .i64 0, .slice none 0 0, .slice none 0 0]) (t := 29) ?hr ?_; (case hd => rfl); (case hg => rfl); (case hr => first | (go_simp; done) | (go_simp; rfl)); intro gb880 hg w29 hbox hb; have n0_ := Aside0.mk (Kd.R_below (rz HO866.out) hb); have n1_ := Aside0.mk (Kd.R_below (rz HO869.out) hb); have n2_ := Aside0.mk (Kd.R_below (rz HO872.out) hb); have n3_ := Aside0.mk (Kd.R_below (rz HO876.out) hb); have n4_ := Aside0.mk (Kd.R_below (rz HO879.out) hb); have n5_ := Aside0.mk (blk_below (g := gb861) (o := .cells #[.int .i64 a0_0, .slice A0_1 l0_1.length c0_1, .slice A0_2 l0_2.length c0_2] 25 (0, 0)) kz hb); have n6_ := Aside0.mk (below_step bz hb); have n7_ := Aside0.mk (hbox); have n8_ := Aside0.mk ((by rw [hg]; exact (below_size bz) : w.heap.size ≤ gb880)); have n9_ := Aside0.mk ((by rw [hg]; exact (below_size bz) : w.heap.size ≤ gb880)); have n10_ := Aside0.mk ((by rw [hg]; exact Nat.ne_of_lt (blk_lt (g := gb861) (o := .cells #[.int .i64 a0_0, .slice A0_1 l0_1.length c0_1, .slice A0_2 l0_2.length c0_2] 25 (0, 0)) kz) : gb861 ≠ gb880)); have n11_ := Aside0.mk ((by rw [hg]; exact Nat.ne_of_gt (blk_lt (g := gb861) (o := .cells #[.int .i64 a0_0, .slice A0_1 l0_1.length c0_1, .slice A0_2 l0_2.length c0_2] 25 (0, 0)) kz) : gb880 ≠ gb861)); clear HO866; clear HO869; clear HO872; clear HO876; clear HO879; clear BK861; clear HB; have HO866 := n0_; have HO869 := n1_; have HO872 := n2_; have HO876 := n3_; have HO879 := n4_; have BK861 := n5_; have HB := n6_; have BK880 := n7_; have GW880 := n8_; have GE880 := n9_; have NB861_880 := n10_; have NB880_861 := n11_; clear n0_ n1_ n2_ n3_ n4_ n5_ n6_ n7_ n8_ n9_ n10_ n11_; clear hb hbox hg; have hnb30 := NB880_861.out; have hnc30 := NB861_880.out; have hcz31_0 : w29.cell? ⟨gb880, 0, none⟩ = some (.int .i64 0) := (blk_cell BK880.out 0).trans rfl; have hcz31_1 : w29.cell? ⟨gb880, 1, none⟩ = some (.slice none 0 0) := (blk_cell BK880.out 1).trans rfl; have hcz31_2 : w29.cell? ⟨gb880, 2, none⟩ = some (.slice none 0 0) := (blk_cell BK880.out 2).trans rfl; have hfz31_0 := blk_frozen BK880.out 0; have hfz31_1 := blk_frozen BK880.out 1; have hfz31_2 := blk_frozen BK880.out 2; obtain ⟨Ao32, co32, eo32⟩ := Kd.R_slice HO876.out; subst eo32; obtain ⟨Ao33, co33, eo33⟩ := Kd.R_slice HO879.out; subst eo33) | ((with_reducible refine gate_callee (f := 19) rfl ?_); refine goesL_ (some 26) rfl rfl Try.func19 (by kernel_rfl) rfl #[.agg #[.int .i64 t873, .slice Ao32 t874.length co32, .slice Ao33 t877.length co33], .int .i64 a1] rfl lz ?_; (with_reducible refine (impl_LiveRegs.calls k t873 _ _ t874 _ _ t877 a1 t881 _ ?side1 ?side2 ?side3 ?side4 A11.out).mono ?_); (case side1 => refine (Kd.R_reads' (e := 2) (base := w.heap.size) (ok := fun k_ => ((True ∧ some k_ ≠ (.slice Ao24 t864.length co24 : Value).ownBlock) ∧ some k_ ≠ (v871 : Value).ownBlock)) (n := t874.length) (c := co32) ?_).2.2; exact (by (with_reducible repeat (first | apply Kd.R_alloc | apply Kd.R_drewN | apply Kd.R_drew)); exact (Kd.R_mono (Kd.R_far (p := ⟨gb880, 2, none⟩) (Kd.R_far (p := ⟨gb880, 1, none⟩) (Kd.R_far (p := ⟨gb880, 0, none⟩) (Kd.R_types HO876.out BK880.out (by decide)) (fun _ hk => hk.2) (.int .i64 t873)) (fun _ hk => hk.2) (.slice Ao32 t874.length co32)) (fun _ hk => hk.2) (.slice Ao33 t877.length co33)) (fun _ h_ => h_.1)))); (case side2 => exact (Kd.R_reads' HO876.out).2.1); (case side3 => refine (Kd.R_reads' (e := 85) (base := w.heap.size) (ok := fun k_ => (((some k_ ≠ (.slice Ao32 t874.length co32 : Value).ownBlock ∧ some k_ ≠ (.slice Ao24 t864.length co24 : Value).ownBlock) ∧ some k_ ≠ (.slice Ao25 t867.length co25 : Value).ownBlock) ∧ some k_ ≠ (v871 : Value).ownBlock)) (n := t877.length) (c := co33) ?_).2.2; exact (by (with_reducible repeat (first | apply Kd.R_alloc | apply Kd.R_drewN | apply Kd.R_drew)); exact (Kd.R_mono (Kd.R_far (p := ⟨gb880, 2, none⟩) (Kd.R_far (p := ⟨gb880, 1, none⟩) (Kd.R_far (p := ⟨gb880, 0, none⟩) (Kd.R_types HO879.out BK880.out (by decide)) (fun _ hk => hk.2) (.int .i64 t873)) (fun _ hk => hk.2) (.slice Ao32 t874.length co32)) (fun _ hk => hk.2) (.slice Ao33 t877.length co33)) (fun _ h_ => h_.1)))); (case side4 => exact (Kd.R_reads' HO879.out).2.1); rintro e w34 ⟨v882, rfl, ho0, hb⟩; refine ⟨_, rfl, ?_⟩; have n0_ := Aside0.mk (Kd.R_elder' (by (with_reducible repeat (first | apply Kd.R_alloc | apply Kd.R_drewN | apply Kd.R_drew)); exact (Kd.R_mono (Kd.R_far (p := ⟨gb880, 2, none⟩) (Kd.R_far (p := ⟨gb880, 1, none⟩) (Kd.R_far (p := ⟨gb880, 0, none⟩) (Kd.R_types HO866.out BK880.out (by decide)) (fun _ hk => hk.2) (.int .i64 t873)) (fun _ hk => hk.2) (.slice Ao32 t874.length co32)) (fun _ hk => hk.2) (.slice Ao33 t877.length co33)) (fun _ h_ => h_.1))) (Kd.R_base ho0) hb); have n1_ := Aside0.mk (Kd.R_elder' (by (with_reducible repeat (first | apply Kd.R_alloc | apply Kd.R_drewN | apply Kd.R_drew)); exact (Kd.R_mono (Kd.R_far (p := ⟨gb880, 2, none⟩) (Kd.R_far (p := ⟨gb880, 1, none⟩) (Kd.R_far (p := ⟨gb880, 0, none⟩) (Kd.R_types HO869.out BK880.out (by decide)) (fun _ hk => hk.2) (.int .i64 t873)) (fun _ hk => hk.2) (.slice Ao32 t874.length co32)) (fun _ hk => hk.2) (.slice Ao33 t877.length co33)) (fun _ h_ => h_.1))) (Kd.R_base ho0) hb); have n2_ := Aside0.mk (Kd.R_elder' (by (with_reducible repeat (first | apply Kd.R_alloc | apply Kd.R_drewN | apply Kd.R_drew)); exact (Kd.R_mono (Kd.R_far (p := ⟨gb880, 2, none⟩) (Kd.R_far (p := ⟨gb880, 1, none⟩) (Kd.R_far (p := ⟨gb880, 0, none⟩) (Kd.R_types HO872.out BK880.out (by decide)) (fun _ hk => hk.2) (.int .i64 t873)) (fun _ hk => hk.2) (.slice Ao32 t874.length co32)) (fun _ hk => hk.2) (.slice Ao33 t877.length co33)) (fun _ h_ => h_.1))) (Kd.R_base ho0) hb); have n3_ := Aside0.mk (Kd.R_elder' (by (with_reducible repeat (first | apply Kd.R_alloc | apply Kd.R_drewN | apply Kd.R_drew)); exact (Kd.R_mono (Kd.R_far (p := ⟨gb880, 2, none⟩) (Kd.R_far (p := ⟨gb880, 1, none⟩) (Kd.R_far (p := ⟨gb880, 0, none⟩) (Kd.R_types HO876.out BK880.out (by decide)) (fun _ hk => hk.2) (.int .i64 t873)) (fun _ hk => hk.2) (.slice Ao32 t874.length co32)) (fun _ hk => hk.2) (.slice Ao33 t877.length co33)) (fun _ h_ => h_.1))) (Kd.R_base ho0) hb); have n4_ := Aside0.mk (Kd.R_elder' (by (with_reducible repeat (first | apply Kd.R_alloc | apply Kd.R_drewN | apply Kd.R_drew)); exact (Kd.R_mono (Kd.R_far (p := ⟨gb880, 2, none⟩) (Kd.R_far (p := ⟨gb880, 1, none⟩) (Kd.R_far (p := ⟨gb880, 0, none⟩) (Kd.R_types HO879.out BK880.out (by decide)) (fun _ hk => hk.2) (.int .i64 t873)) (fun _ hk => hk.2) (.slice Ao32 t874.length co32)) (fun _ hk => hk.2) (.slice Ao33 t877.length co33)) (fun _ h_ => h_.1))) (Kd.R_base ho0) hb); have n5_ := Aside0.mk (Kd.R_lower (Kd.R_new' (Kd.R_new' (Kd.R_new' ho0 (Kd.R_lt (by (with_reducible repeat (first | apply Kd.R_alloc | apply Kd.R_drewN | apply Kd.R_drew)); exact (Kd.R_mono (Kd.R_far (p := ⟨gb880, 2, none⟩) (Kd.R_far (p := ⟨gb880, 1, none⟩) (Kd.R_far (p := ⟨gb880, 0, none⟩) (Kd.R_types HO866.out BK880.out (by decide)) (fun _ hk => hk.2) (.int .i64 t873)) (fun _ hk => hk.2) (.slice Ao32 t874.length co32)) (fun _ hk => hk.2) (.slice Ao33 t877.length co33)) (fun _ h_ => h_.1))))) (Kd.R_lt (by (with_reducible repeat (first | apply Kd.R_alloc | apply Kd.R_drewN | apply Kd.R_drew)); exact (Kd.R_mono (Kd.R_far (p := ⟨gb880, 2, none⟩) (Kd.R_far (p := ⟨gb880, 1, none⟩) (Kd.R_far (p := ⟨gb880, 0, none⟩) (Kd.R_types HO872.out BK880.out (by decide)) (fun _ hk => hk.2) (.int .i64 t873)) (fun _ hk => hk.2) (.slice Ao32 t874.length co32)) (fun _ hk => hk.2) (.slice Ao33 t877.length co33)) (fun _ h_ => h_.1))))) (Kd.R_lt (by (with_reducible repeat (first | apply Kd.R_alloc | apply Kd.R_drewN | apply Kd.R_drew)); exact (Kd.R_mono (Kd.R_far (p := ⟨gb880, 2, none⟩) (Kd.R_far (p := ⟨gb880, 1, none⟩) (Kd.R_far (p := ⟨gb880, 0, none⟩) (Kd.R_types HO876.out BK880.out (by decide)) (fun _ hk => hk.2) (.int .i64 t873)) (fun _ hk => hk.2) (.slice Ao32 t874.length co32)) (fun _ hk => hk.2) (.slice Ao33 t877.length co33)) (fun _ h_ => h_.1))))) (below_size bz)); have n6_ := Aside0.mk (blk_below (g := gb861) (o := .cells #[.int .i64 a0_0, .slice A0_1 l0_1.length c0_1, .slice A0_2 l0_2.length c0_2] 25 (0, 0)) (by (with_reducible repeat (first | refine blk_drewN ?_ _ | refine blk_drew ?_ | refine blk_alloc ?_ _)); refine blk_far ?_ NB861_880.out _; (with_reducible repeat (first | refine blk_drewN ?_ _ | refine blk_drew ?_ | refine blk_alloc ?_ _)); refine blk_far ?_ NB861_880.out _; (with_reducible repeat (first | refine blk_drewN ?_ _ | refine blk_drew ?_ | refine blk_alloc ?_ _)); refine blk_far ?_ NB861_880.out _; (with_reducible repeat (first | refine blk_drewN ?_ _ | refine blk_drew ?_ | refine blk_alloc ?_ _)); exact BK861.out) hb); have n7_ := Aside0.mk (blk_below (g := gb880) (o := .cells #[.int .i64 t873, .slice Ao32 t874.length co32, .slice Ao33 t877.length co33] 29 (0, 0)) (by (with_reducible repeat (first | refine blk_drewN ?_ _ | refine blk_drew ?_ | refine blk_alloc ?_ _)); refine blk_put (cs := #[.int .i64 t873, .slice Ao32 t874.length co32, .slice none 0 0]) ?_ 2 _ rfl; (with_reducible repeat (first | refine blk_drewN ?_ _ | refine blk_drew ?_ | refine blk_alloc ?_ _)); refine blk_put (cs := #[.int .i64 t873, .slice none 0 0, .slice none 0 0]) ?_ 1 _ rfl; (with_reducible repeat (first | refine blk_drewN ?_ _ | refine blk_drew ?_ | refine blk_alloc ?_ _)); refine blk_put (cs := #[.int .i64 0, .slice none 0 0, .slice none 0 0]) ?_ 0 _ rfl; (with_reducible repeat (first | refine blk_drewN ?_ _ | refine blk_drew ?_ | refine blk_alloc ?_ _)); exact BK880.out) hb); have n8_ := Aside0.mk (below_step bz hb); clear HO866; clear HO869; clear HO872; clear HO876; clear HO879; clear BK861; clear BK880; clear HB; have HO866 := n0_; have HO869 := n1_; have HO872 := n2_; have HO876 := n3_; have HO879 := n4_; have HO883 := n5_; have BK861 := n6_; have BK880 := n7_; have HB := n8_; clear n0_ n1_ n2_ n3_ n4_ n5_ n6_ n7_ n8_; (try clear hb); (try clear hb2); (try clear hk); (try clear hi); (try clear ho0); obtain ⟨Ao35, co35, eo35⟩ := Kd.R_slice HO883.out; subst eo35; obtain ⟨Ao36, co36, eo36⟩ := Kd.R_slice HO872.out; subst eo36) | ((with_reducible refine gate_callee (f := 20) rfl ?_); refine goesL_ (some 29) rfl rfl Try.func20 (by kernel_rfl) rfl #[.slice Ao35 t881.length co35, .slice Ao36 t870.length co36] rfl lz ?_; (with_reducible refine (laws_eqInt64S.calls k _ _ t881 _ _ t870 true _ ?side1 ?side2 ?side3 ?side4 A12.out).mono ?_); (case side1 => repeat (first | exact (Kd.R_reads' HO883.out).2.2 | (with_reducible refine Kd.C_alloc ?_ _) | (with_reducible refine Kd.C_drewN ?_ _) | (with_reducible refine Kd.C_drew ?_))); (case side2 => exact (Kd.R_reads' HO883.out).2.1); (case side3 => repeat (first | exact (Kd.R_reads' HO872.out).2.2 | (with_reducible refine Kd.C_alloc ?_ _) | (with_reducible refine Kd.C_drewN ?_ _) | (with_reducible refine Kd.C_drew ?_))); (case side4 => exact (Kd.R_reads' HO872.out).2.1); rintro e w' ⟨rfl, ⟨nd, rfl⟩⟩; refine ⟨_, rfl, ?_⟩))
       (try (rw [drewN_self w34]; generalize hq_ : World.drewN w34 _ = w34; have n0_ : Aside0 (Kd.R (Kd.int .i64) 2 w34 w.heap.size (fun k_ => (((True ∧ some k_ ≠ (.slice Ao36 t870.length co36 : Value).ownBlock) ∧ some k_ ≠ (.slice Ao32 t874.length co32 : Value).ownBlock) ∧ some k_ ≠ (.slice Ao35 t881.length co35 : Value).ownBlock)) (.slice Ao24 t864.length co24) t864) := ⟨by rw [← hq_]; exact (rz HO866.out)⟩; have n1_ : Aside0 (Kd.R k85 85 w34 w.heap.size (fun k_ => ((((some k_ ≠ (.slice Ao24 t864.length co24 : Value).ownBlock ∧ some k_ ≠ (.slice Ao36 t870.length co36 : Value).ownBlock) ∧ some k_ ≠ (.slice Ao32 t874.length co32 : Value).ownBlock) ∧ some k_ ≠ (.slice Ao33 t877.length co33 : Value).ownBlock) ∧ some k_ ≠ (.slice Ao35 t881.length co35 : Value).ownBlock)) (.slice Ao25 t867.length co25) t867) := ⟨by rw [← hq_]; exact (rz HO869.out)⟩; have n2_ : Aside0 (Kd.R (Kd.int .i64) 2 w34 w.heap.size (fun k_ => (((True ∧ some k_ ≠ (.slice Ao24 t864.length co24 : Value).ownBlock) ∧ some k_ ≠ (.slice Ao32 t874.length co32 : Value).ownBlock) ∧ some k_ ≠ (.slice Ao35 t881.length co35 : Value).ownBlock)) (.slice Ao36 t870.length co36) t870) := ⟨by rw [← hq_]; exact (rz HO872.out)⟩; have n3_ : Aside0 (Kd.R (Kd.int .i64) 2 w34 w.heap.size (fun k_ => (((True ∧ some k_ ≠ (.slice Ao24 t864.length co24 : Value).ownBlock) ∧ some k_ ≠ (.slice Ao36 t870.length co36 : Value).ownBlock) ∧ some k_ ≠ (.slice Ao35 t881.length co35 : Value).ownBlock)) (.slice Ao32 t874.length co32) t874) := ⟨by rw [← hq_]; exact (rz HO876.out)⟩; have n4_ : Aside0 (Kd.R k85 85 w34 w.heap.size (fun k_ => ((((some k_ ≠ (.slice Ao32 t874.length co32 : Value).ownBlock ∧ some k_ ≠ (.slice Ao24 t864.length co24 : Value).ownBlock) ∧ some k_ ≠ (.slice Ao25 t867.length co25 : Value).ownBlock) ∧ some k_ ≠ (.slice Ao36 t870.length co36 : Value).ownBlock) ∧ some k_ ≠ (.slice Ao35 t881.length co35 : Value).ownBlock)) (.slice Ao33 t877.length co33) t877) := ⟨by rw [← hq_]; exact (rz HO879.out)⟩; have n5_ : Aside0 (Kd.R (Kd.int .i64) 2 w34 w.heap.size (fun k_ => (((True ∧ some k_ ≠ (.slice Ao24 t864.length co24 : Value).ownBlock) ∧ some k_ ≠ (.slice Ao36 t870.length co36 : Value).ownBlock) ∧ some k_ ≠ (.slice Ao32 t874.length co32 : Value).ownBlock)) (.slice Ao35 t881.length co35) t881) := ⟨by rw [← hq_]; exact (rz HO883.out)⟩; have n6_ : Aside0 (w34.heap[gb861]? = some (.cells #[.int .i64 a0_0, .slice A0_1 l0_1.length c0_1, .slice A0_2 l0_2.length c0_2] 25 (0, 0))) := ⟨by rw [← hq_]; exact kz⟩; have n7_ : Aside0 (w34.heap[gb880]? = some (.cells #[.int .i64 t873, .slice Ao32 t874.length co32, .slice Ao33 t877.length co33] 29 (0, 0))) := ⟨by rw [← hq_]; exact kz⟩; have n8_ : Aside0 (Below w.heap.size w w34) := ⟨by rw [← hq_]; exact bz⟩; clear HO866 HO869 HO872 HO876 HO879 HO883 BK861 BK880 HB hq_; have HO866 := n0_; have HO869 := n1_; have HO872 := n2_; have HO876 := n3_; have HO879 := n4_; have HO883 := n5_; have BK861 := n6_; have BK880 := n7_; have HB := n8_; clear n0_ n1_ n2_ n3_ n4_ n5_ n6_ n7_ n8_))
       have n0_ := Aside0.mk (Kd.R_drew HO866.out)
       have n1_ := Aside0.mk (Kd.R_drew HO869.out)
       have n2_ := Aside0.mk (Kd.R_drew HO872.out)
       have n3_ := Aside0.mk (Kd.R_drew HO876.out)
       have n4_ := Aside0.mk (Kd.R_drew HO879.out)
       have n5_ := Aside0.mk (Kd.R_drew HO883.out)
       have n6_ := Aside0.mk (blk_drew BK861.out)
       have n7_ := Aside0.mk (blk_drew BK880.out)
       have n8_ := Aside0.mk (below_drew1 HB.out)
       clear HO866
       clear HO869
       clear HO872
       clear HO876
       clear HO879
       clear HO883
       clear BK861
       clear BK880
       clear HB
       have HO866 := n0_
       have HO869 := n1_
       have HO872 := n2_
       have HO876 := n3_
       have HO879 := n4_
       have HO883 := n5_
       have BK861 := n6_
       have BK880 := n7_
       have HB := n8_
       clear n0_ n1_ n2_ n3_ n4_ n5_ n6_ n7_ n8_
       refine start_ (n := 5) (S := fun w' => w'.cell? ⟨gb880, 0, none⟩ = some (.int .i64 t873) ∧ w'.cell? ⟨gb880, 1, none⟩ = some (.slice Ao32 t874.length co32) ∧ w'.cell? ⟨gb880, 2, none⟩ = some (.slice Ao33 t877.length co33) ∧ w'.cell? ⟨gb861, 0, none⟩ = some (.int .i64 a0_0) ∧ w'.cell? ⟨gb861, 1, none⟩ = some (.slice A0_1 l0_1.length c0_1) ∧ w'.cell? ⟨gb861, 2, none⟩ = some (.slice A0_2 l0_2.length c0_2)) (ds := []) #[false, false, false, false, false] (by kernel_rfl) rfl rfl ⟨(blk_cell BK880.out 0).trans rfl, (blk_cell BK880.out 1).trans rfl, (blk_cell BK880.out 2).trans rfl, (blk_cell BK861.out 0).trans rfl, (blk_cell BK861.out 1).trans rfl, (blk_cell BK861.out 2).trans rfl⟩ (fun hHeld => ?_)
       generalize w34.drew = w37 at HO866 HO869 HO872 HO876 HO879 HO883 BK861 BK880 HB hHeld ⊢
       refine take_ (i := 0) (N := some 31) (v := ?_) (a' := ?_) #[true, false, false, false, false] rfl rfl (by kernel_rfl) (fun _ _ _ h => h) (Or.inl ⟨by rfl, ?_⟩) hHeld ?_ ?_
       rotate_left
       · rintro w' ⟨s0, s1, s2, s3, s4, s5⟩
         go_simp
         with_reducible rfl
       rotate_left
       · simp only [Act.put, sx1, sx2, sx3, i64_w, i32_w]
         rfl
       refine take_ (i := 1) (N := some 32) (v := ?_) (a' := ?_) #[true, true, false, false, false] rfl rfl (by kernel_rfl) (fun _ _ _ h => h) (Or.inl ⟨by rfl, ?_⟩) hHeld ?_ ?_
       rotate_left
       · rintro w' ⟨s0, s1, s2, s3, s4, s5⟩
         go_simp
         with_reducible rfl
       rotate_left
       · simp only [Act.put, sx1, sx2, sx3, i64_w, i32_w]
         rfl
       refine one_ (i := 2) (N := some 33) #[true, true, true, false, false] rfl rfl (by kernel_rfl) (by decide) (fun K hK => ?_)
       refine goes_ Try.func13 (by kernel_rfl) rfl #[.agg #[.int .i64 a0_0, .slice A0_1 l0_1.length c0_1, .slice A0_2 l0_2.length c0_2]] (by rfl) rfl rfl lz ?_
       with_reducible refine (laws_toVFunc.calls k a0_0 _ _ l0_1 _ _ l0_2 t885 t886 t889 _ ?side1 ?side2 ?side3 ?side4 A14.out).mono ?_
       (case side1 => exact cz HR0_1.out)
       (case side2 => exact HC0_1.out)
       (case side3 => exact cz HR0_2.out)
       (case side4 => exact HC0_2.out)
       rintro e w38 ⟨v887, v890, rfl, ho0, ho1, hb⟩
       refine ⟨_, rfl, ?_⟩
       have n0_ := Aside0.mk (Kd.R_elder' (rz HO866.out) (Kd.R_base ho0) hb)
       have n1_ := Aside0.mk (Kd.R_mono (Kd.R_told (Kd.R_told (Kd.R_old (rz HO869.out) hb) (Kd.R_base ho0)) (Kd.R_base ho1)) (fun _ h_ => h_.1))
       have n2_ := Aside0.mk (Kd.R_elder' (rz HO872.out) (Kd.R_base ho0) hb)
       have n3_ := Aside0.mk (Kd.R_elder' (rz HO876.out) (Kd.R_base ho0) hb)
       have n4_ := Aside0.mk (Kd.R_mono (Kd.R_told (Kd.R_told (Kd.R_old (rz HO879.out) hb) (Kd.R_base ho0)) (Kd.R_base ho1)) (fun _ h_ => h_.1))
       have n5_ := Aside0.mk (Kd.R_elder' (rz HO883.out) (Kd.R_base ho0) hb)
       have n6_ := Aside0.mk (Kd.R_lower (Kd.R_new' (Kd.R_new' (Kd.R_new' (Kd.R_new' ho0 (Kd.R_lt (rz HO866.out))) (Kd.R_lt (rz HO872.out))) (Kd.R_lt (rz HO876.out))) (Kd.R_lt (rz HO883.out))) (below_size bz))
       have n7_ := Aside0.mk (Kd.R_lower (Kd.R_new' (Kd.R_new' (Kd.R_new' (Kd.R_new' (Kd.R_new' (Kd.R_new' ho1 (Kd.R_lt (rz HO866.out))) (Kd.R_lt (rz HO869.out))) (Kd.R_lt (rz HO872.out))) (Kd.R_lt (rz HO876.out))) (Kd.R_lt (rz HO879.out))) (Kd.R_lt (rz HO883.out))) (below_size bz))
       have n8_ := Aside0.mk (blk_below (g := gb861) (o := .cells #[.int .i64 a0_0, .slice A0_1 l0_1.length c0_1, .slice A0_2 l0_2.length c0_2] 25 (0, 0)) kz hb)
       have n9_ := Aside0.mk (blk_below (g := gb880) (o := .cells #[.int .i64 t873, .slice Ao32 t874.length co32, .slice Ao33 t877.length co33] 29 (0, 0)) kz hb)
       have n10_ := Aside0.mk (below_step bz hb)
       clear HO866
       clear HO869
       clear HO872
       clear HO876
       clear HO879
       clear HO883
       clear BK861
       clear BK880
       clear HB
       have HO866 := n0_
       have HO869 := n1_
       have HO872 := n2_
       have HO876 := n3_
       have HO879 := n4_
       have HO883 := n5_
       have HO888 := n6_
       have HO891 := n7_
       have BK861 := n8_
       have BK880 := n9_
       have HB := n10_
       clear n0_ n1_ n2_ n3_ n4_ n5_ n6_ n7_ n8_ n9_ n10_
       (try clear hb)
       (try clear hb2)
       (try clear hk)
       (try clear hi)
       (try clear ho0)
       (try clear ho1)
       obtain ⟨Ao39, co39, eo39⟩ := Kd.R_slice HO888.out
       (first | subst eo39 | (injection eo39 with f1_ f2_ f3_; have f4_ := f1_.symm; have f5_ := f3_.symm; clear f1_ f2_ f3_; subst f4_; subst f5_))
       obtain ⟨Ao40, co40, eo40⟩ := Kd.R_slice HO891.out
       (first | subst eo40 | (injection eo40 with f1_ f2_ f3_; have f4_ := f1_.symm; have f5_ := f3_.symm; clear f1_ f2_ f3_; subst f4_; subst f5_))
       refine hK.out _ _ ⟨(blk_cell BK880.out 0).trans rfl, (blk_cell BK880.out 1).trans rfl, (blk_cell BK880.out 2).trans rfl, (blk_cell BK861.out 0).trans rfl, (blk_cell BK861.out 1).trans rfl, (blk_cell BK861.out 2).trans rfl⟩ (fun hHeld => ?_)
       clear hK K
       refine norm_ (a' := ?_) ?_ ?_
       rotate_left
       · show Act.put _ (some 33) _ = _
         simp only [Act.put, sx1, sx2, sx3, i64_w, i32_w]
         rfl
       refine one_ (i := 3) (N := some 34) #[true, true, true, true, false] rfl rfl (by kernel_rfl) (by decide) (fun K hK => ?_)
       refine goes_ Try.func15 (by kernel_rfl) rfl #[.agg #[.int .i64 t873, .slice Ao32 t874.length co32, .slice Ao33 t877.length co33], .agg #[.int .i64 t885, .slice Ao39 t886.length co39, .slice Ao40 t889.length co40]] (by rfl) rfl rfl lz ?_
       with_reducible refine (laws_eqVFunc.calls k t873 _ _ t874 _ _ t877 t885 _ _ t886 _ _ t889 true _ ?side1 ?side2 ?side3 ?side4 ?side5 ?side6 ?side7 ?side8 A15.out).mono ?_
       (case side1 => repeat (first | exact (Kd.R_reads' HO876.out).2.2 | (with_reducible refine Kd.C_alloc ?_ _) | (with_reducible refine Kd.C_drewN ?_ _) | (with_reducible refine Kd.C_drew ?_)))
       (case side2 => exact (Kd.R_reads' HO876.out).2.1)
       (case side3 => repeat (first | exact (Kd.R_reads' HO879.out).2.2 | (with_reducible refine Kd.C_alloc ?_ _) | (with_reducible refine Kd.C_drewN ?_ _) | (with_reducible refine Kd.C_drew ?_)))
       (case side4 => exact (Kd.R_reads' HO879.out).2.1)
       (case side5 => repeat (first | exact (Kd.R_reads' HO888.out).2.2 | (with_reducible refine Kd.C_alloc ?_ _) | (with_reducible refine Kd.C_drewN ?_ _) | (with_reducible refine Kd.C_drew ?_)))
       (case side6 => exact (Kd.R_reads' HO888.out).2.1)
       (case side7 => repeat (first | exact (Kd.R_reads' HO891.out).2.2 | (with_reducible refine Kd.C_alloc ?_ _) | (with_reducible refine Kd.C_drewN ?_ _) | (with_reducible refine Kd.C_drew ?_)))
       (case side8 => exact (Kd.R_reads' HO891.out).2.1)
       rintro e w41 ⟨rfl, hb⟩
       refine ⟨_, rfl, ?_⟩
       have n0_ := Aside0.mk (Kd.R_below (rz HO866.out) hb)
       have n1_ := Aside0.mk (Kd.R_below (rz HO869.out) hb)
       have n2_ := Aside0.mk (Kd.R_below (rz HO872.out) hb)
       have n3_ := Aside0.mk (Kd.R_below (rz HO876.out) hb)
       have n4_ := Aside0.mk (Kd.R_below (rz HO879.out) hb)
       have n5_ := Aside0.mk (Kd.R_below (rz HO883.out) hb)
       have n6_ := Aside0.mk (Kd.R_below (rz HO888.out) hb)
       have n7_ := Aside0.mk (Kd.R_below (rz HO891.out) hb)
       have n8_ := Aside0.mk (blk_below (g := gb861) (o := .cells #[.int .i64 a0_0, .slice A0_1 l0_1.length c0_1, .slice A0_2 l0_2.length c0_2] 25 (0, 0)) kz hb)
       have n9_ := Aside0.mk (blk_below (g := gb880) (o := .cells #[.int .i64 t873, .slice Ao32 t874.length co32, .slice Ao33 t877.length co33] 29 (0, 0)) kz hb)
       have n10_ := Aside0.mk (below_step bz hb)
       clear HO866
       clear HO869
       clear HO872
       clear HO876
       clear HO879
       clear HO883
       clear HO888
       clear HO891
       clear BK861
       clear BK880
       clear HB
       have HO866 := n0_
       have HO869 := n1_
       have HO872 := n2_
       have HO876 := n3_
       have HO879 := n4_
       have HO883 := n5_
       have HO888 := n6_
       have HO891 := n7_
       have BK861 := n8_
       have BK880 := n9_
       have HB := n10_
       clear n0_ n1_ n2_ n3_ n4_ n5_ n6_ n7_ n8_ n9_ n10_
       (try clear hb)
       (try clear hb2)
       (try clear hk)
       (try clear hi)
       refine hK.out _ _ ⟨(blk_cell BK880.out 0).trans rfl, (blk_cell BK880.out 1).trans rfl, (blk_cell BK880.out 2).trans rfl, (blk_cell BK861.out 0).trans rfl, (blk_cell BK861.out 1).trans rfl, (blk_cell BK861.out 2).trans rfl⟩ (fun hHeld => ?_)
       clear hK K
       refine norm_ (a' := ?_) ?_ ?_
       rotate_left
       · show Act.put _ (some 34) _ = _
         simp only [Act.put, sx1, sx2, sx3, i64_w, i32_w]
         rfl
       refine pure_ (i := 4) (N := some 35) (v := ?_) (a' := ?_) #[true, true, true, true, true] rfl rfl (by kernel_rfl) (fun _ _ _ h => h) (Or.inl ⟨by rfl, ?_⟩) ?_ ?_
       rotate_left
       · intro w'
         go_simp
         with_reducible rfl
       rotate_left
       · simp only [Act.put, sx1, sx2, sx3, i64_w, i32_w]
         rfl
       refine done_ (by kernel_rfl) ?_
       have hcz42_0 : w41.cell? ⟨gb880, 0, none⟩ = some (.int .i64 t873) := (blk_cell BK880.out 0).trans rfl
       have hcz42_1 : w41.cell? ⟨gb880, 1, none⟩ = some (.slice Ao32 t874.length co32) := (blk_cell BK880.out 1).trans rfl
       have hcz42_2 : w41.cell? ⟨gb880, 2, none⟩ = some (.slice Ao33 t877.length co33) := (blk_cell BK880.out 2).trans rfl
       have hfz42_0 := blk_frozen BK880.out 0
       have hfz42_1 := blk_frozen BK880.out 1
       have hfz42_2 := blk_frozen BK880.out 2
       go_upto_region 14 with (first | ((with_reducible refine gate_callee (f := 16) rfl ?_); refine goesL_ (some 38) rfl rfl Try.func16 (by kernel_rfl) rfl #[.agg #[.int .i64 t873, .slice Ao32 t874.length co32, .slice Ao33 t877.length co33], .int .i64 1] rfl lz ?_; (with_reducible refine (laws_markVFunc.calls t873 (fun k_ => some k_ = (.slice Ao32 t874.length co32 : Value).ownBlock) (.slice Ao32 t874.length co32) t874 (fun k_ => ((((((((some k_ ≠ (.slice Ao32 t874.length co32 : Value).ownBlock ∧ some k_ ≠ (.slice Ao24 t864.length co24 : Value).ownBlock) ∧ some k_ ≠ (.slice Ao25 t867.length co25 : Value).ownBlock) ∧ some k_ ≠ (.slice Ao36 t870.length co36 : Value).ownBlock) ∧ some k_ ≠ (.slice Ao35 t881.length co35 : Value).ownBlock) ∧ some k_ ≠ (.slice Ao39 t886.length co39 : Value).ownBlock) ∧ some k_ ≠ (.slice Ao40 t889.length co40 : Value).ownBlock) ∧ k_ ≠ gb861) ∧ k_ ≠ gb880) ∧ w.heap.size ≤ k_) (.slice Ao33 t877.length co33) t877 1 t893 w _ ?side1 ?side2 ?side3 A17.out).mono ?_); (case side1 => repeat (first | (with_reducible first | exact HB.out | apply below_alloc | apply pw_below_drewN | apply below_drew1 | refine below_set ?_ GE861.out | refine below_set ?_ GE880.out) | exact HB.out)); (case side2 => exact Kd.R_tight rfl HO876.out); (case side3 => exact Kd.R_mono (Kd.R_bound (Kd.R_types (Kd.R_types (HO879.out) BK861.out (by decide)) BK880.out (by decide))) (fun _ h_ => ⟨h_.1, h_.2.1⟩)); rintro e w43 ⟨rfl, hb, hkp⟩; refine ⟨_, rfl, ?_⟩; have n0_ := Aside0.mk (blk_kept kz hkp (fun hs_ => Or.elim hs_ (fun e_ => (fun e_ => (Kd.R_ne HO876.out BK861.out (by decide)) e_) e_) (fun e_ => (fun p_ => (p_.1.1.2) rfl) e_))); have n1_ := Aside0.mk (Kd.R_mono (ok' := fun k_ => some k_ ≠ (.slice Ao36 t870.length co36 : Value).ownBlock ∧ some k_ ≠ (.slice Ao35 t881.length co35 : Value).ownBlock ∧ some k_ ≠ (.slice Ao39 t886.length co39 : Value).ownBlock) (Kd.R_keptB ((Kd.R_mono (Kd.R_tight2 rfl HO866.out) (fun k_ hk => (⟨hk.2, fun p_ => (p_.1.1.1.1.1.1.1.1.2) hk.1⟩ : _ ∧ ¬ ((fun k_ => ((((((((some k_ ≠ (.slice Ao32 t874.length co32 : Value).ownBlock ∧ some k_ ≠ (.slice Ao24 t864.length co24 : Value).ownBlock) ∧ some k_ ≠ (.slice Ao25 t867.length co25 : Value).ownBlock) ∧ some k_ ≠ (.slice Ao36 t870.length co36 : Value).ownBlock) ∧ some k_ ≠ (.slice Ao35 t881.length co35 : Value).ownBlock) ∧ some k_ ≠ (.slice Ao39 t886.length co39 : Value).ownBlock) ∧ some k_ ≠ (.slice Ao40 t889.length co40 : Value).ownBlock) ∧ k_ ≠ gb861) ∧ k_ ≠ gb880) ∧ w.heap.size ≤ k_)) k_)))) hkp (fun k_ hk_ hs_ => Or.elim hs_ (fun e_ => (hk_.1.1.1.2) e_) (fun e_ => (hk_.2) e_))) (fun k_ hk_ => ⟨hk_.1.1.1.1.1.2, hk_.1.1.1.2, hk_.1.1.2⟩)); have n2_ := Aside0.mk (Kd.R_mono (ok' := fun k_ => some k_ ≠ (.slice Ao24 t864.length co24 : Value).ownBlock ∧ some k_ ≠ (.slice Ao35 t881.length co35 : Value).ownBlock ∧ some k_ ≠ (.slice Ao39 t886.length co39 : Value).ownBlock) (Kd.R_keptB ((Kd.R_mono (Kd.R_tight2 rfl HO872.out) (fun k_ hk => (⟨hk.2, fun p_ => (p_.1.1.1.1.1.1.2) hk.1⟩ : _ ∧ ¬ ((fun k_ => ((((((((some k_ ≠ (.slice Ao32 t874.length co32 : Value).ownBlock ∧ some k_ ≠ (.slice Ao24 t864.length co24 : Value).ownBlock) ∧ some k_ ≠ (.slice Ao25 t867.length co25 : Value).ownBlock) ∧ some k_ ≠ (.slice Ao36 t870.length co36 : Value).ownBlock) ∧ some k_ ≠ (.slice Ao35 t881.length co35 : Value).ownBlock) ∧ some k_ ≠ (.slice Ao39 t886.length co39 : Value).ownBlock) ∧ some k_ ≠ (.slice Ao40 t889.length co40 : Value).ownBlock) ∧ k_ ≠ gb861) ∧ k_ ≠ gb880) ∧ w.heap.size ≤ k_)) k_)))) hkp (fun k_ hk_ hs_ => Or.elim hs_ (fun e_ => (hk_.1.1.1.2) e_) (fun e_ => (hk_.2) e_))) (fun k_ hk_ => ⟨hk_.1.1.1.1.1.2, hk_.1.1.1.2, hk_.1.1.2⟩)); have n3_ := Aside0.mk (blk_kept kz hkp (fun hs_ => Or.elim hs_ (fun e_ => (fun e_ => (Kd.R_ne HO876.out BK880.out (by decide)) e_) e_) (fun e_ => (fun p_ => (p_.1.2) rfl) e_))); have n4_ := Aside0.mk (Kd.R_mono (ok' := fun k_ => some k_ ≠ (.slice Ao24 t864.length co24 : Value).ownBlock ∧ some k_ ≠ (.slice Ao36 t870.length co36 : Value).ownBlock ∧ some k_ ≠ (.slice Ao39 t886.length co39 : Value).ownBlock) (Kd.R_keptB ((Kd.R_mono (Kd.R_tight2 rfl HO883.out) (fun k_ hk => (⟨hk.2, fun p_ => (p_.1.1.1.1.1.2) hk.1⟩ : _ ∧ ¬ ((fun k_ => ((((((((some k_ ≠ (.slice Ao32 t874.length co32 : Value).ownBlock ∧ some k_ ≠ (.slice Ao24 t864.length co24 : Value).ownBlock) ∧ some k_ ≠ (.slice Ao25 t867.length co25 : Value).ownBlock) ∧ some k_ ≠ (.slice Ao36 t870.length co36 : Value).ownBlock) ∧ some k_ ≠ (.slice Ao35 t881.length co35 : Value).ownBlock) ∧ some k_ ≠ (.slice Ao39 t886.length co39 : Value).ownBlock) ∧ some k_ ≠ (.slice Ao40 t889.length co40 : Value).ownBlock) ∧ k_ ≠ gb861) ∧ k_ ≠ gb880) ∧ w.heap.size ≤ k_)) k_)))) hkp (fun k_ hk_ hs_ => Or.elim hs_ (fun e_ => (hk_.1.1.2) e_) (fun e_ => (hk_.2) e_))) (fun k_ hk_ => ⟨hk_.1.1.1.1.1.2, hk_.1.1.1.1.2, hk_.1.1.2⟩)); have n5_ := Aside0.mk (Kd.R_mono (ok' := fun k_ => some k_ ≠ (.slice Ao24 t864.length co24 : Value).ownBlock ∧ some k_ ≠ (.slice Ao36 t870.length co36 : Value).ownBlock ∧ some k_ ≠ (.slice Ao35 t881.length co35 : Value).ownBlock) (Kd.R_keptB ((Kd.R_mono (Kd.R_tight2 rfl HO888.out) (fun k_ hk => (⟨hk.2, fun p_ => (p_.1.1.1.1.2) hk.1⟩ : _ ∧ ¬ ((fun k_ => ((((((((some k_ ≠ (.slice Ao32 t874.length co32 : Value).ownBlock ∧ some k_ ≠ (.slice Ao24 t864.length co24 : Value).ownBlock) ∧ some k_ ≠ (.slice Ao25 t867.length co25 : Value).ownBlock) ∧ some k_ ≠ (.slice Ao36 t870.length co36 : Value).ownBlock) ∧ some k_ ≠ (.slice Ao35 t881.length co35 : Value).ownBlock) ∧ some k_ ≠ (.slice Ao39 t886.length co39 : Value).ownBlock) ∧ some k_ ≠ (.slice Ao40 t889.length co40 : Value).ownBlock) ∧ k_ ≠ gb861) ∧ k_ ≠ gb880) ∧ w.heap.size ≤ k_)) k_)))) hkp (fun k_ hk_ hs_ => Or.elim hs_ (fun e_ => (hk_.1.1.2) e_) (fun e_ => (hk_.2) e_))) (fun k_ hk_ => ⟨hk_.1.1.1.1.1.2, hk_.1.1.1.1.2, hk_.1.1.2⟩)); have n6_ := Aside0.mk (hb); clear BK861; clear HO866; clear HO872; clear BK880; clear HO883; clear HO888; clear HB; clear HO876; clear HO879; clear HO869; clear HO891; have BK861 := n0_; have HO866 := n1_; have HO872 := n2_; have BK880 := n3_; have HO883 := n4_; have HO888 := n5_; have HB := n6_; clear n0_ n1_ n2_ n3_ n4_ n5_ n6_; (try clear hb); (try clear hkp)))
       (try simp only [Act.put, sx1, sx2, sx3])
       go_cut [46] (fun v46 wc => ∃ (kq : Nat) (x46_17 : Bool), v46 = .bool x46_17 ∧ Aside0 (laws_FnExactLiveRegs.j0 kq a1 t870 t881 x46_17 a0_0 l0_1 l0_2 = some r) ∧ Aside0 (kq ≤ k) ∧ Aside0 (Kd.R (Kd.int .i64) 2 wc w.heap.size (fun k_ => some k_ ≠ ((.slice Ao35 t881.length co35) : Value).ownBlock) (.slice Ao36 t870.length co36) t870) ∧ Aside0 (Kd.R (Kd.int .i64) 2 wc w.heap.size (fun k_ => some k_ ≠ ((.slice Ao36 t870.length co36) : Value).ownBlock) (.slice Ao35 t881.length co35) t881) ∧ Aside0 (wc.heap[gb861]? = some (.cells #[.int .i64 a0_0, (.slice A0_1 l0_1.length c0_1), (.slice A0_2 l0_2.length c0_2)] 25 (0, 0))) ∧ Aside0 (Below w.heap.size w wc))
       case first =>
        have H := HC18.out
        clear HC18
        by_cases c44 : t893 < 0
        · rw [if_pos c44] at H
          have c44b0 : decide (t893 < 0) = true := decide_eq_true c44
          clear c44
          (first | rw [c44b0] | (simp only [i64_w, i32_w]; rw [c44b0]) | skip)
          have H' := Aside0.mk H
          clear H
          go_wp2
          go_meet
          case rel => exact ⟨_, (true), sz_, H', ⟨by first | omega | exact Nat.le_refl _⟩, ⟨by (with_reducible repeat (first | apply Kd.R_alloc | apply Kd.R_drewN | apply Kd.R_drew)); exact Kd.R_mono HO872.out (fun _ hk => hk.2.1)⟩, ⟨by (with_reducible repeat (first | apply Kd.R_alloc | apply Kd.R_drewN | apply Kd.R_drew)); exact Kd.R_mono HO883.out (fun _ hk => hk.2.1)⟩, ⟨ kz⟩, ⟨ bz⟩⟩
        · rw [if_neg c44] at H
          have c44b0 : decide (t893 < 0) = false := decide_eq_false c44
          clear c44
          (first | rw [c44b0] | (simp only [i64_w, i32_w]; rw [c44b0]) | skip)
          replace H := Option.bind_eq_some_iff.mp H
          obtain ⟨t894, A450, H⟩ := H
          replace H : (laws_FnExactLiveRegs.j0 k a1 t870 t881 (!t894) a0_0 l0_1 l0_2) = some r := H
          have A45 := Aside0.mk A450
          clear A450
          have H' := Aside0.mk H
          clear H
          go_wp2_with (first | (go_at_call 20; (with_reducible refine (laws_eqInt64S.calls k _ _ t881 _ _ t870 t894 _ ?side1 ?side2 ?side3 ?side4 A45.out).mono ?_); (case side1 => repeat (first | exact (Kd.R_reads' HO883.out).2.2 | (with_reducible refine Kd.C_alloc ?_ _) | (with_reducible refine Kd.C_drewN ?_ _) | (with_reducible refine Kd.C_drew ?_))); (case side2 => exact (Kd.R_reads' HO883.out).2.1); (case side3 => repeat (first | exact (Kd.R_reads' HO872.out).2.2 | (with_reducible refine Kd.C_alloc ?_ _) | (with_reducible refine Kd.C_drewN ?_ _) | (with_reducible refine Kd.C_drew ?_))); (case side4 => exact (Kd.R_reads' HO872.out).2.1); rintro e w' ⟨rfl, ⟨nd, rfl⟩⟩))
          go_meet
          case rel => exact ⟨_, (!t894), sz_, H', ⟨by first | omega | exact Nat.le_refl _⟩, ⟨by (with_reducible repeat (first | apply Kd.R_alloc | apply Kd.R_drewN | apply Kd.R_drew)); exact Kd.R_mono HO872.out (fun _ hk => hk.2.1)⟩, ⟨by (with_reducible repeat (first | apply Kd.R_alloc | apply Kd.R_drewN | apply Kd.R_drew)); exact Kd.R_mono HO883.out (fun _ hk => hk.2.1)⟩, ⟨ kz⟩, ⟨ bz⟩⟩
       case rest =>
        clear HC18
        try clear c1
        try clear c2
        try clear p2
        try clear c3
        try clear c4
        try clear c4b0
        try clear c11
        try clear c13
        try clear c15
        try clear c16
        try clear c18
        try clear c19
        try clear c20
        try clear c30
        try clear c44
        try clear c44b0
        try clear hcz20_0
        try clear hcz20_1
        try clear hcz20_2
        try clear hcz22_0
        try clear hcz22_1
        try clear hcz22_2
        try clear hcz27_0
        try clear hcz27_1
        try clear hcz27_2
        try clear hcz31_0
        try clear hcz31_1
        try clear hcz31_2
        try clear hcz42_0
        try clear hcz42_1
        try clear hcz42_2
        try clear hcz6_0
        try clear hcz6_1
        try clear hcz6_2
        try clear hfz20_0
        try clear hfz20_1
        try clear hfz20_2
        try clear hfz22_0
        try clear hfz22_1
        try clear hfz22_2
        try clear hfz27_0
        try clear hfz27_1
        try clear hfz27_2
        try clear hfz31_0
        try clear hfz31_1
        try clear hfz31_2
        try clear hfz42_0
        try clear hfz42_1
        try clear hfz42_2
        try clear hfz6_0
        try clear hfz6_1
        try clear hfz6_2
        obtain ⟨kq, x46_17, rfl, HA, HJ17, HO_6, HO_8, BK861, HB⟩ := hcut
        cases kq with
        | zero => exact absurd HA.out (by simp [laws_FnExactLiveRegs.j0])
        | succ kj17 =>
         have H := HA.out
         clear HA
         simp only [laws_FnExactLiveRegs.j0] at H
         by_cases c46 : x46_17 = true
         · subst c46
           have H1 : (some false) = some r := by rw [if_pos rfl] at H; exact H
           clear H
           have H := H1
           clear H1
           obtain rfl := Option.some.inj H
           go_wp2
           go_ret
           exact ⟨by first | rfl | (simp [errW_none, errW_some] <;> rfl) | (simp [*, errW_none, errW_some] <;> rfl), bz⟩
         · replace c46 := Bool.eq_false_iff.mpr c46
           subst c46
           have H1 : ((laws_markInt64S.f kj17 t881 1).bind fun bt895 => ((laws_heldInt64S.f kj17 bt895.2 1).bind fun t897 => (if t897 < 0 then (some false) else (if t897 = bt895.1 then ((laws_toVFunc.f kj17 a0_0 l0_1 l0_2).bind fun bt898 => ((impl_LiveRegs.f kj17 bt898.1 bt898.2.1 bt898.2.2 a1).bind fun t905 => ((laws_eqInt64S.f kj17 t905 t870).bind fun t908 => (if t908 = true then ((laws_heldInt64S.f kj17 bt895.2 1).bind fun t909 => (if t909 < 0 then (some false) else (if t909 = bt895.1 then (some true) else (some false)))) else (some false))))) else (some false))))) = some r := by rw [if_neg (show ¬ (false = true) by decide)] at H; exact H
           clear H
           have H := H1
           clear H1
           replace H := Option.bind_eq_some_iff.mp H
           obtain ⟨⟨t895, t896⟩, A470, H⟩ := H
           replace H : ((laws_heldInt64S.f kj17 t896 1).bind fun t897 => (if t897 < 0 then (some false) else (if t897 = t895 then ((laws_toVFunc.f kj17 a0_0 l0_1 l0_2).bind fun bt898 => ((impl_LiveRegs.f kj17 bt898.1 bt898.2.1 bt898.2.2 a1).bind fun t905 => ((laws_eqInt64S.f kj17 t905 t870).bind fun t908 => (if t908 = true then ((laws_heldInt64S.f kj17 t896 1).bind fun t909 => (if t909 < 0 then (some false) else (if t909 = t895 then (some true) else (some false)))) else (some false))))) else (some false)))) = some r := H
           have A47 := Aside0.mk A470
           clear A470
           replace H := Option.bind_eq_some_iff.mp H
           obtain ⟨t897, A480, H⟩ := H
           replace H : (if t897 < 0 then (some false) else (if t897 = t895 then ((laws_toVFunc.f kj17 a0_0 l0_1 l0_2).bind fun bt898 => ((impl_LiveRegs.f kj17 bt898.1 bt898.2.1 bt898.2.2 a1).bind fun t905 => ((laws_eqInt64S.f kj17 t905 t870).bind fun t908 => (if t908 = true then ((laws_heldInt64S.f kj17 t896 1).bind fun t909 => (if t909 < 0 then (some false) else (if t909 = t895 then (some true) else (some false)))) else (some false))))) else (some false))) = some r := H
           have A48 := Aside0.mk A480
           clear A480
           by_cases c49 : t897 < 0
           · rw [if_pos c49] at H
             have c49b0 : decide (t897 < 0) = true := decide_eq_true c49
             clear c49
             obtain rfl := Option.some.inj H
             go_wp2_with (first | ((with_reducible refine gate_callee (f := 21) rfl ?_); refine goesL_ (some 49) rfl rfl Try.func21 (by kernel_rfl) rfl #[.slice Ao35 t881.length co35, .int .i64 1] rfl lz ?_; (with_reducible refine (laws_markInt64S.calls kj17 (fun k_ => some k_ = (.slice Ao35 t881.length co35 : Value).ownBlock) (.slice Ao35 t881.length co35) t881 1 t895 t896 w _ ?side1 ?side2 A47.out).mono ?_); (case side1 => repeat (first | (with_reducible first | exact HB.out | apply below_alloc | apply pw_below_drewN | apply below_drew1 | refine below_set ?_ GE861.out) | exact HB.out)); (case side2 => exact Kd.R_tight rfl HO_8.out); rintro e w50 ⟨rfl, hy0, hb, hkp⟩; refine ⟨_, rfl, ?_⟩; have n0_ := Aside0.mk (Kd.R_mono (ok' := fun k_ => some k_ ≠ (.slice Ao35 t881.length co35 : Value).ownBlock) (Kd.R_keptB (HO_6.out) hkp (fun k_ hk_ hs_ => (hk_) hs_)) (fun k_ hk_ => hk_.1)); have n1_ := Aside0.mk (Kd.R_reok rfl hy0 (fun k_ e_ => HO_8.out.1 k_ e_)); have n2_ := Aside0.mk (blk_kept kz hkp (fun hs_ => (fun e_ => (Kd.R_ne HO_8.out BK861.out (by decide)) e_) hs_)); have n3_ := Aside0.mk (hb); clear HO_6; clear HO_8; clear BK861; clear HB; have HO_6 := n0_; have HO_8 := n1_; have BK861 := n2_; have HB := n3_; clear n0_ n1_ n2_ n3_; (try clear hb); (try clear hkp); (try clear hy0)) | ((with_reducible refine gate_callee (f := 22) rfl ?_); refine goesL_ (some 52) rfl rfl Try.func22 (by kernel_rfl) rfl #[.slice Ao35 t896.length co35, .int .i64 1] rfl (by (try simp only [List.map_toArray, List.map_cons, List.map_nil]); first | done | (rw [show t896.length = t881.length from (Kd.R_reads' HO_8.out).1.symm] <;> rfl) | rfl | (simp only [List.length_drop, List.length_take]; rfl)) ?_; (with_reducible refine (laws_heldInt64S.calls kj17 _ _ t896 1 t897 _ ?side1 ?side2 A48.out).mono ?_); (case side1 => repeat (first | exact (Kd.R_reads' HO_8.out).2.2 | (with_reducible refine Kd.C_alloc ?_ _) | (with_reducible refine Kd.C_drewN ?_ _) | (with_reducible refine Kd.C_drew ?_))); (case side2 => rw [show t896.length = t881.length from (Kd.R_reads' HO_8.out).1.symm]; exact (Kd.R_reads' HO_8.out).2.1); rintro e w' ⟨rfl, ⟨nd, rfl⟩⟩; refine ⟨_, rfl, ?_⟩))
             go_ret
             exact ⟨by first | rfl | (simp [errW_none, errW_some] <;> rfl) | (simp [*, errW_none, errW_some] <;> rfl), bz⟩
           · rw [if_neg c49] at H
             have c49b0 : decide (t897 < 0) = false := decide_eq_false c49
             clear c49
             by_cases c51 : t897 = t895
             · rw [if_pos c51] at H
               have c51b0 : (t897 == t895) = true := beq_iff_eq.mpr c51
               have c51b1 : (t897 != t895) = false := bne_eq_false_iff_eq.mpr c51
               clear c51
               replace H := Option.bind_eq_some_iff.mp H
               obtain ⟨⟨t898, t899, t902⟩, A520, H⟩ := H
               replace H : ((impl_LiveRegs.f kj17 t898 t899 t902 a1).bind fun t905 => ((laws_eqInt64S.f kj17 t905 t870).bind fun t908 => (if t908 = true then ((laws_heldInt64S.f kj17 t896 1).bind fun t909 => (if t909 < 0 then (some false) else (if t909 = t895 then (some true) else (some false)))) else (some false)))) = some r := H
               have A52 := Aside0.mk A520
               clear A520
               replace H := Option.bind_eq_some_iff.mp H
               obtain ⟨t905, A530, H⟩ := H
               replace H : ((laws_eqInt64S.f kj17 t905 t870).bind fun t908 => (if t908 = true then ((laws_heldInt64S.f kj17 t896 1).bind fun t909 => (if t909 < 0 then (some false) else (if t909 = t895 then (some true) else (some false)))) else (some false))) = some r := H
               have A53 := Aside0.mk A530
               clear A530
               replace H := Option.bind_eq_some_iff.mp H
               obtain ⟨t908, A540, H⟩ := H
               replace H : (if t908 = true then ((laws_heldInt64S.f kj17 t896 1).bind fun t909 => (if t909 < 0 then (some false) else (if t909 = t895 then (some true) else (some false)))) else (some false)) = some r := H
               have A54 := Aside0.mk A540
               clear A540
               by_cases c55 : t908 = true
               · subst c55
                 have H1 : ((laws_heldInt64S.f kj17 t896 1).bind fun t909 => (if t909 < 0 then (some false) else (if t909 = t895 then (some true) else (some false)))) = some r := by rw [if_pos rfl] at H; exact H
                 clear H
                 have H := H1
                 clear H1
                 replace H := Option.bind_eq_some_iff.mp H
                 obtain ⟨t909, A560, H⟩ := H
                 replace H : (if t909 < 0 then (some false) else (if t909 = t895 then (some true) else (some false))) = some r := H
                 have A56 := Aside0.mk A560
                 clear A560
                 by_cases c57 : t909 < 0
                 · rw [if_pos c57] at H
                   have c57b0 : decide (t909 < 0) = true := decide_eq_true c57
                   clear c57
                   obtain rfl := Option.some.inj H
                   go_wp2_with (first | ((with_reducible refine gate_callee (f := 21) rfl ?_); refine goesL_ (some 49) rfl rfl Try.func21 (by kernel_rfl) rfl #[.slice Ao35 t881.length co35, .int .i64 1] rfl lz ?_; (with_reducible refine (laws_markInt64S.calls kj17 (fun k_ => some k_ = (.slice Ao35 t881.length co35 : Value).ownBlock) (.slice Ao35 t881.length co35) t881 1 t895 t896 w _ ?side1 ?side2 A47.out).mono ?_); (case side1 => repeat (first | (with_reducible first | exact HB.out | apply below_alloc | apply pw_below_drewN | apply below_drew1 | refine below_set ?_ GE861.out) | exact HB.out)); (case side2 => exact Kd.R_tight rfl HO_8.out); rintro e w58 ⟨rfl, hy0, hb, hkp⟩; refine ⟨_, rfl, ?_⟩; have n0_ := Aside0.mk (Kd.R_mono (ok' := fun k_ => some k_ ≠ (.slice Ao35 t881.length co35 : Value).ownBlock) (Kd.R_keptB (HO_6.out) hkp (fun k_ hk_ hs_ => (hk_) hs_)) (fun k_ hk_ => hk_.1)); have n1_ := Aside0.mk (Kd.R_reok rfl hy0 (fun k_ e_ => HO_8.out.1 k_ e_)); have n2_ := Aside0.mk (blk_kept kz hkp (fun hs_ => (fun e_ => (Kd.R_ne HO_8.out BK861.out (by decide)) e_) hs_)); have n3_ := Aside0.mk (hb); clear HO_6; clear HO_8; clear BK861; clear HB; have HO_6 := n0_; have HO_8 := n1_; have BK861 := n2_; have HB := n3_; clear n0_ n1_ n2_ n3_; (try clear hb); (try clear hkp); (try clear hy0)) | ((with_reducible refine gate_callee (f := 22) rfl ?_); refine goesL_ (some 52) rfl rfl Try.func22 (by kernel_rfl) rfl #[.slice Ao35 t896.length co35, .int .i64 1] rfl (by (try simp only [List.map_toArray, List.map_cons, List.map_nil]); first | done | (rw [show t896.length = t881.length from (Kd.R_reads' HO_8.out).1.symm] <;> rfl) | rfl | (simp only [List.length_drop, List.length_take]; rfl)) ?_; (with_reducible refine (laws_heldInt64S.calls kj17 _ _ t896 1 t897 _ ?side1 ?side2 A48.out).mono ?_); (case side1 => repeat (first | exact (Kd.R_reads' HO_8.out).2.2 | (with_reducible refine Kd.C_alloc ?_ _) | (with_reducible refine Kd.C_drewN ?_ _) | (with_reducible refine Kd.C_drew ?_))); (case side2 => rw [show t896.length = t881.length from (Kd.R_reads' HO_8.out).1.symm]; exact (Kd.R_reads' HO_8.out).2.1); rintro e w' ⟨rfl, ⟨nd, rfl⟩⟩; refine ⟨_, rfl, ?_⟩; have hcz59_0 : w58.cell? ⟨gb861, 0, none⟩ = some (.int .i64 a0_0) := (blk_cell BK861.out 0).trans rfl; have hcz59_1 : w58.cell? ⟨gb861, 1, none⟩ = some (.slice A0_1 l0_1.length c0_1) := (blk_cell BK861.out 1).trans rfl; have hcz59_2 : w58.cell? ⟨gb861, 2, none⟩ = some (.slice A0_2 l0_2.length c0_2) := (blk_cell BK861.out 2).trans rfl; have hfz59_0 := blk_frozen BK861.out 0; have hfz59_1 := blk_frozen BK861.out 1; have hfz59_2 := blk_frozen BK861.out 2) | ((with_reducible refine gate_callee (f := 13) rfl ?_); refine goesL_ (some 59) rfl rfl Try.func13 (by kernel_rfl) rfl #[.agg #[.int .i64 a0_0, .slice A0_1 l0_1.length c0_1, .slice A0_2 l0_2.length c0_2]] rfl lz ?_; (with_reducible refine (laws_toVFunc.calls kj17 a0_0 _ _ l0_1 _ _ l0_2 t898 t899 t902 _ ?side1 ?side2 ?side3 ?side4 A52.out).mono ?_); (case side1 => exact cz HR0_1.out); (case side2 => exact HC0_1.out); (case side3 => exact cz HR0_2.out); (case side4 => exact HC0_2.out); rintro e w60 ⟨v900, v903, rfl, ho0, ho1, hb⟩; refine ⟨_, rfl, ?_⟩; have n0_ := Aside0.mk (Kd.R_elder' (rz HO_6.out) (Kd.R_base ho0) hb); have n1_ := Aside0.mk (Kd.R_elder' (rz HO_8.out) (Kd.R_base ho0) hb); have n2_ := Aside0.mk (Kd.R_lower (Kd.R_new' (Kd.R_new' ho0 (Kd.R_lt (rz HO_6.out))) (Kd.R_lt (rz HO_8.out))) (below_size bz)); have n3_ := Aside0.mk (Kd.R_lower (Kd.R_new' (Kd.R_new' ho1 (Kd.R_lt (rz HO_6.out))) (Kd.R_lt (rz HO_8.out))) (below_size bz)); have n4_ := Aside0.mk (blk_below (g := gb861) (o := .cells #[.int .i64 a0_0, .slice A0_1 l0_1.length c0_1, .slice A0_2 l0_2.length c0_2] 25 (0, 0)) kz hb); have n5_ := Aside0.mk (below_step bz hb); clear HO_6; clear HO_8; clear BK861; clear HB; have HO_6 := n0_; have HO_8 := n1_; have HO901 := n2_; have HO904 := n3_; have BK861 := n4_; have HB := n5_; clear n0_ n1_ n2_ n3_ n4_ n5_; (try clear hb); (try clear hb2); (try clear hk); (try clear hi); (try clear ho0); (try clear ho1); obtain ⟨Ao61, co61, eo61⟩ := Kd.R_slice HO901.out; subst eo61; obtain ⟨Ao62, co62, eo62⟩ := Kd.R_slice HO904.out; subst eo62) | ((with_reducible refine gate_callee (f := 19) rfl ?_); refine goesL_ (some 61) rfl rfl Try.func19 (by kernel_rfl) rfl #[.agg #[.int .i64 t898, .slice Ao61 t899.length co61, .slice Ao62 t902.length co62], .int .i64 a1] rfl lz ?_; (with_reducible refine (impl_LiveRegs.calls kj17 t898 _ _ t899 _ _ t902 a1 t905 _ ?side1 ?side2 ?side3 ?side4 A53.out).mono ?_); (case side1 => repeat (first | exact (Kd.R_reads' HO901.out).2.2 | (with_reducible refine Kd.C_alloc ?_ _) | (with_reducible refine Kd.C_drewN ?_ _) | (with_reducible refine Kd.C_drew ?_))); (case side2 => exact (Kd.R_reads' HO901.out).2.1); (case side3 => repeat (first | exact (Kd.R_reads' HO904.out).2.2 | (with_reducible refine Kd.C_alloc ?_ _) | (with_reducible refine Kd.C_drewN ?_ _) | (with_reducible refine Kd.C_drew ?_))); (case side4 => exact (Kd.R_reads' HO904.out).2.1); rintro e w63 ⟨v906, rfl, ho0, hb⟩; refine ⟨_, rfl, ?_⟩; have n0_ := Aside0.mk (Kd.R_elder' (rz HO_6.out) (Kd.R_base ho0) hb); have n1_ := Aside0.mk (Kd.R_elder' (rz HO_8.out) (Kd.R_base ho0) hb); have n2_ := Aside0.mk (Kd.R_elder' (rz HO901.out) (Kd.R_base ho0) hb); have n3_ := Aside0.mk (Kd.R_elder' (rz HO904.out) (Kd.R_base ho0) hb); have n4_ := Aside0.mk (Kd.R_lower (Kd.R_new' (Kd.R_new' (Kd.R_new' ho0 (Kd.R_lt (rz HO_6.out))) (Kd.R_lt (rz HO_8.out))) (Kd.R_lt (rz HO901.out))) (below_size bz)); have n5_ := Aside0.mk (blk_below (g := gb861) (o := .cells #[.int .i64 a0_0, .slice A0_1 l0_1.length c0_1, .slice A0_2 l0_2.length c0_2] 25 (0, 0)) kz hb); have n6_ := Aside0.mk (below_step bz hb); clear HO_6; clear HO_8; clear HO901; clear HO904; clear BK861; clear HB; have HO_6 := n0_; have HO_8 := n1_; have HO901 := n2_; have HO904 := n3_; have HO907 := n4_; have BK861 := n5_; have HB := n6_; clear n0_ n1_ n2_ n3_ n4_ n5_ n6_; (try clear hb); (try clear hb2); (try clear hk); (try clear hi); (try clear ho0); obtain ⟨Ao64, co64, eo64⟩ := Kd.R_slice HO907.out; subst eo64) | ((with_reducible refine gate_callee (f := 20) rfl ?_); refine goesL_ (some 64) rfl rfl Try.func20 (by kernel_rfl) rfl #[.slice Ao64 t905.length co64, .slice Ao36 t870.length co36] rfl lz ?_; (with_reducible refine (laws_eqInt64S.calls kj17 _ _ t905 _ _ t870 true _ ?side1 ?side2 ?side3 ?side4 A54.out).mono ?_); (case side1 => repeat (first | exact (Kd.R_reads' HO907.out).2.2 | (with_reducible refine Kd.C_alloc ?_ _) | (with_reducible refine Kd.C_drewN ?_ _) | (with_reducible refine Kd.C_drew ?_))); (case side2 => exact (Kd.R_reads' HO907.out).2.1); (case side3 => repeat (first | exact (Kd.R_reads' HO_6.out).2.2 | (with_reducible refine Kd.C_alloc ?_ _) | (with_reducible refine Kd.C_drewN ?_ _) | (with_reducible refine Kd.C_drew ?_))); (case side4 => exact (Kd.R_reads' HO_6.out).2.1); rintro e w' ⟨rfl, ⟨nd, rfl⟩⟩; refine ⟨_, rfl, ?_⟩) | ((with_reducible refine gate_callee (f := 22) rfl ?_); refine goesL_ (some 68) rfl rfl Try.func22 (by kernel_rfl) rfl #[.slice Ao35 t896.length co35, .int .i64 1] rfl (by (try simp only [List.map_toArray, List.map_cons, List.map_nil]); first | done | (rw [show t896.length = t881.length from (Kd.R_reads' HO_8.out).1.symm] <;> rfl) | rfl | (simp only [List.length_drop, List.length_take]; rfl)) ?_; (with_reducible refine (laws_heldInt64S.calls kj17 _ _ t896 1 t909 _ ?side1 ?side2 A56.out).mono ?_); (case side1 => repeat (first | exact (Kd.R_reads' HO_8.out).2.2 | (with_reducible refine Kd.C_alloc ?_ _) | (with_reducible refine Kd.C_drewN ?_ _) | (with_reducible refine Kd.C_drew ?_))); (case side2 => rw [show t896.length = t881.length from (Kd.R_reads' HO_8.out).1.symm]; exact (Kd.R_reads' HO_8.out).2.1); rintro e w' ⟨rfl, ⟨nd, rfl⟩⟩; refine ⟨_, rfl, ?_⟩))
                   go_ret
                   exact ⟨by first | rfl | (simp [errW_none, errW_some] <;> rfl) | (simp [*, errW_none, errW_some] <;> rfl), bz⟩
                 · rw [if_neg c57] at H
                   have c57b0 : decide (t909 < 0) = false := decide_eq_false c57
                   clear c57
                   by_cases c65 : t909 = t895
                   · rw [if_pos c65] at H
                     have c65b0 : (t909 == t895) = true := beq_iff_eq.mpr c65
                     have c65b1 : (t909 != t895) = false := bne_eq_false_iff_eq.mpr c65
                     clear c65
                     obtain rfl := Option.some.inj H
                     go_wp2_with (first | ((with_reducible refine gate_callee (f := 21) rfl ?_); refine goesL_ (some 49) rfl rfl Try.func21 (by kernel_rfl) rfl #[.slice Ao35 t881.length co35, .int .i64 1] rfl lz ?_; (with_reducible refine (laws_markInt64S.calls kj17 (fun k_ => some k_ = (.slice Ao35 t881.length co35 : Value).ownBlock) (.slice Ao35 t881.length co35) t881 1 t895 t896 w _ ?side1 ?side2 A47.out).mono ?_); (case side1 => repeat (first | (with_reducible first | exact HB.out | apply below_alloc | apply pw_below_drewN | apply below_drew1 | refine below_set ?_ GE861.out) | exact HB.out)); (case side2 => exact Kd.R_tight rfl HO_8.out); rintro e w66 ⟨rfl, hy0, hb, hkp⟩; refine ⟨_, rfl, ?_⟩; have n0_ := Aside0.mk (Kd.R_mono (ok' := fun k_ => some k_ ≠ (.slice Ao35 t881.length co35 : Value).ownBlock) (Kd.R_keptB (HO_6.out) hkp (fun k_ hk_ hs_ => (hk_) hs_)) (fun k_ hk_ => hk_.1)); have n1_ := Aside0.mk (Kd.R_reok rfl hy0 (fun k_ e_ => HO_8.out.1 k_ e_)); have n2_ := Aside0.mk (blk_kept kz hkp (fun hs_ => (fun e_ => (Kd.R_ne HO_8.out BK861.out (by decide)) e_) hs_)); have n3_ := Aside0.mk (hb); clear HO_6; clear HO_8; clear BK861; clear HB; have HO_6 := n0_; have HO_8 := n1_; have BK861 := n2_; have HB := n3_; clear n0_ n1_ n2_ n3_; (try clear hb); (try clear hkp); (try clear hy0)) | ((with_reducible refine gate_callee (f := 22) rfl ?_); refine goesL_ (some 52) rfl rfl Try.func22 (by kernel_rfl) rfl #[.slice Ao35 t896.length co35, .int .i64 1] rfl (by (try simp only [List.map_toArray, List.map_cons, List.map_nil]); first | done | (rw [show t896.length = t881.length from (Kd.R_reads' HO_8.out).1.symm] <;> rfl) | rfl | (simp only [List.length_drop, List.length_take]; rfl)) ?_; (with_reducible refine (laws_heldInt64S.calls kj17 _ _ t896 1 t897 _ ?side1 ?side2 A48.out).mono ?_); (case side1 => repeat (first | exact (Kd.R_reads' HO_8.out).2.2 | (with_reducible refine Kd.C_alloc ?_ _) | (with_reducible refine Kd.C_drewN ?_ _) | (with_reducible refine Kd.C_drew ?_))); (case side2 => rw [show t896.length = t881.length from (Kd.R_reads' HO_8.out).1.symm]; exact (Kd.R_reads' HO_8.out).2.1); rintro e w' ⟨rfl, ⟨nd, rfl⟩⟩; refine ⟨_, rfl, ?_⟩; have hcz67_0 : w66.cell? ⟨gb861, 0, none⟩ = some (.int .i64 a0_0) := (blk_cell BK861.out 0).trans rfl; have hcz67_1 : w66.cell? ⟨gb861, 1, none⟩ = some (.slice A0_1 l0_1.length c0_1) := (blk_cell BK861.out 1).trans rfl; have hcz67_2 : w66.cell? ⟨gb861, 2, none⟩ = some (.slice A0_2 l0_2.length c0_2) := (blk_cell BK861.out 2).trans rfl; have hfz67_0 := blk_frozen BK861.out 0; have hfz67_1 := blk_frozen BK861.out 1; have hfz67_2 := blk_frozen BK861.out 2) | ((with_reducible refine gate_callee (f := 13) rfl ?_); refine goesL_ (some 59) rfl rfl Try.func13 (by kernel_rfl) rfl #[.agg #[.int .i64 a0_0, .slice A0_1 l0_1.length c0_1, .slice A0_2 l0_2.length c0_2]] rfl lz ?_; (with_reducible refine (laws_toVFunc.calls kj17 a0_0 _ _ l0_1 _ _ l0_2 t898 t899 t902 _ ?side1 ?side2 ?side3 ?side4 A52.out).mono ?_); (case side1 => exact cz HR0_1.out); (case side2 => exact HC0_1.out); (case side3 => exact cz HR0_2.out); (case side4 => exact HC0_2.out); rintro e w68 ⟨v900, v903, rfl, ho0, ho1, hb⟩; refine ⟨_, rfl, ?_⟩; have n0_ := Aside0.mk (Kd.R_elder' (rz HO_6.out) (Kd.R_base ho0) hb); have n1_ := Aside0.mk (Kd.R_elder' (rz HO_8.out) (Kd.R_base ho0) hb); have n2_ := Aside0.mk (Kd.R_lower (Kd.R_new' (Kd.R_new' ho0 (Kd.R_lt (rz HO_6.out))) (Kd.R_lt (rz HO_8.out))) (below_size bz)); have n3_ := Aside0.mk (Kd.R_lower (Kd.R_new' (Kd.R_new' ho1 (Kd.R_lt (rz HO_6.out))) (Kd.R_lt (rz HO_8.out))) (below_size bz)); have n4_ := Aside0.mk (blk_below (g := gb861) (o := .cells #[.int .i64 a0_0, .slice A0_1 l0_1.length c0_1, .slice A0_2 l0_2.length c0_2] 25 (0, 0)) kz hb); have n5_ := Aside0.mk (below_step bz hb); clear HO_6; clear HO_8; clear BK861; clear HB; have HO_6 := n0_; have HO_8 := n1_; have HO901 := n2_; have HO904 := n3_; have BK861 := n4_; have HB := n5_; clear n0_ n1_ n2_ n3_ n4_ n5_; (try clear hb); (try clear hb2); (try clear hk); (try clear hi); (try clear ho0); (try clear ho1); obtain ⟨Ao69, co69, eo69⟩ := Kd.R_slice HO901.out; subst eo69; obtain ⟨Ao70, co70, eo70⟩ := Kd.R_slice HO904.out; subst eo70) | ((with_reducible refine gate_callee (f := 19) rfl ?_); refine goesL_ (some 61) rfl rfl Try.func19 (by kernel_rfl) rfl #[.agg #[.int .i64 t898, .slice Ao69 t899.length co69, .slice Ao70 t902.length co70], .int .i64 a1] rfl lz ?_; (with_reducible refine (impl_LiveRegs.calls kj17 t898 _ _ t899 _ _ t902 a1 t905 _ ?side1 ?side2 ?side3 ?side4 A53.out).mono ?_); (case side1 => repeat (first | exact (Kd.R_reads' HO901.out).2.2 | (with_reducible refine Kd.C_alloc ?_ _) | (with_reducible refine Kd.C_drewN ?_ _) | (with_reducible refine Kd.C_drew ?_))); (case side2 => exact (Kd.R_reads' HO901.out).2.1); (case side3 => repeat (first | exact (Kd.R_reads' HO904.out).2.2 | (with_reducible refine Kd.C_alloc ?_ _) | (with_reducible refine Kd.C_drewN ?_ _) | (with_reducible refine Kd.C_drew ?_))); (case side4 => exact (Kd.R_reads' HO904.out).2.1); rintro e w71 ⟨v906, rfl, ho0, hb⟩; refine ⟨_, rfl, ?_⟩; have n0_ := Aside0.mk (Kd.R_elder' (rz HO_6.out) (Kd.R_base ho0) hb); have n1_ := Aside0.mk (Kd.R_elder' (rz HO_8.out) (Kd.R_base ho0) hb); have n2_ := Aside0.mk (Kd.R_elder' (rz HO901.out) (Kd.R_base ho0) hb); have n3_ := Aside0.mk (Kd.R_elder' (rz HO904.out) (Kd.R_base ho0) hb); have n4_ := Aside0.mk (Kd.R_lower (Kd.R_new' (Kd.R_new' (Kd.R_new' ho0 (Kd.R_lt (rz HO_6.out))) (Kd.R_lt (rz HO_8.out))) (Kd.R_lt (rz HO901.out))) (below_size bz)); have n5_ := Aside0.mk (blk_below (g := gb861) (o := .cells #[.int .i64 a0_0, .slice A0_1 l0_1.length c0_1, .slice A0_2 l0_2.length c0_2] 25 (0, 0)) kz hb); have n6_ := Aside0.mk (below_step bz hb); clear HO_6; clear HO_8; clear HO901; clear HO904; clear BK861; clear HB; have HO_6 := n0_; have HO_8 := n1_; have HO901 := n2_; have HO904 := n3_; have HO907 := n4_; have BK861 := n5_; have HB := n6_; clear n0_ n1_ n2_ n3_ n4_ n5_ n6_; (try clear hb); (try clear hb2); (try clear hk); (try clear hi); (try clear ho0); obtain ⟨Ao72, co72, eo72⟩ := Kd.R_slice HO907.out; subst eo72) | ((with_reducible refine gate_callee (f := 20) rfl ?_); refine goesL_ (some 64) rfl rfl Try.func20 (by kernel_rfl) rfl #[.slice Ao72 t905.length co72, .slice Ao36 t870.length co36] rfl lz ?_; (with_reducible refine (laws_eqInt64S.calls kj17 _ _ t905 _ _ t870 true _ ?side1 ?side2 ?side3 ?side4 A54.out).mono ?_); (case side1 => repeat (first | exact (Kd.R_reads' HO907.out).2.2 | (with_reducible refine Kd.C_alloc ?_ _) | (with_reducible refine Kd.C_drewN ?_ _) | (with_reducible refine Kd.C_drew ?_))); (case side2 => exact (Kd.R_reads' HO907.out).2.1); (case side3 => repeat (first | exact (Kd.R_reads' HO_6.out).2.2 | (with_reducible refine Kd.C_alloc ?_ _) | (with_reducible refine Kd.C_drewN ?_ _) | (with_reducible refine Kd.C_drew ?_))); (case side4 => exact (Kd.R_reads' HO_6.out).2.1); rintro e w' ⟨rfl, ⟨nd, rfl⟩⟩; refine ⟨_, rfl, ?_⟩) | ((with_reducible refine gate_callee (f := 22) rfl ?_); refine goesL_ (some 68) rfl rfl Try.func22 (by kernel_rfl) rfl #[.slice Ao35 t896.length co35, .int .i64 1] rfl (by (try simp only [List.map_toArray, List.map_cons, List.map_nil]); first | done | (rw [show t896.length = t881.length from (Kd.R_reads' HO_8.out).1.symm] <;> rfl) | rfl | (simp only [List.length_drop, List.length_take]; rfl)) ?_; (with_reducible refine (laws_heldInt64S.calls kj17 _ _ t896 1 t909 _ ?side1 ?side2 A56.out).mono ?_); (case side1 => repeat (first | exact (Kd.R_reads' HO_8.out).2.2 | (with_reducible refine Kd.C_alloc ?_ _) | (with_reducible refine Kd.C_drewN ?_ _) | (with_reducible refine Kd.C_drew ?_))); (case side2 => rw [show t896.length = t881.length from (Kd.R_reads' HO_8.out).1.symm]; exact (Kd.R_reads' HO_8.out).2.1); rintro e w' ⟨rfl, ⟨nd, rfl⟩⟩; refine ⟨_, rfl, ?_⟩))
                     go_ret
                     exact ⟨by first | rfl | (simp [errW_none, errW_some] <;> rfl) | (simp [*, errW_none, errW_some] <;> rfl), bz⟩
                   · rw [if_neg c65] at H
                     have c65b0 : (t909 == t895) = false := beq_eq_false_iff_ne.mpr c65
                     have c65b1 : (t909 != t895) = true := bne_iff_ne.mpr c65
                     obtain rfl := Option.some.inj H
                     go_wp2_with (first | ((with_reducible refine gate_callee (f := 21) rfl ?_); refine goesL_ (some 49) rfl rfl Try.func21 (by kernel_rfl) rfl #[.slice Ao35 t881.length co35, .int .i64 1] rfl lz ?_; (with_reducible refine (laws_markInt64S.calls kj17 (fun k_ => some k_ = (.slice Ao35 t881.length co35 : Value).ownBlock) (.slice Ao35 t881.length co35) t881 1 t895 t896 w _ ?side1 ?side2 A47.out).mono ?_); (case side1 => repeat (first | (with_reducible first | exact HB.out | apply below_alloc | apply pw_below_drewN | apply below_drew1 | refine below_set ?_ GE861.out) | exact HB.out)); (case side2 => exact Kd.R_tight rfl HO_8.out); rintro e w73 ⟨rfl, hy0, hb, hkp⟩; refine ⟨_, rfl, ?_⟩; have n0_ := Aside0.mk (Kd.R_mono (ok' := fun k_ => some k_ ≠ (.slice Ao35 t881.length co35 : Value).ownBlock) (Kd.R_keptB (HO_6.out) hkp (fun k_ hk_ hs_ => (hk_) hs_)) (fun k_ hk_ => hk_.1)); have n1_ := Aside0.mk (Kd.R_reok rfl hy0 (fun k_ e_ => HO_8.out.1 k_ e_)); have n2_ := Aside0.mk (blk_kept kz hkp (fun hs_ => (fun e_ => (Kd.R_ne HO_8.out BK861.out (by decide)) e_) hs_)); have n3_ := Aside0.mk (hb); clear HO_6; clear HO_8; clear BK861; clear HB; have HO_6 := n0_; have HO_8 := n1_; have BK861 := n2_; have HB := n3_; clear n0_ n1_ n2_ n3_; (try clear hb); (try clear hkp); (try clear hy0)) | ((with_reducible refine gate_callee (f := 22) rfl ?_); refine goesL_ (some 52) rfl rfl Try.func22 (by kernel_rfl) rfl #[.slice Ao35 t896.length co35, .int .i64 1] rfl (by (try simp only [List.map_toArray, List.map_cons, List.map_nil]); first | done | (rw [show t896.length = t881.length from (Kd.R_reads' HO_8.out).1.symm] <;> rfl) | rfl | (simp only [List.length_drop, List.length_take]; rfl)) ?_; (with_reducible refine (laws_heldInt64S.calls kj17 _ _ t896 1 t897 _ ?side1 ?side2 A48.out).mono ?_); (case side1 => repeat (first | exact (Kd.R_reads' HO_8.out).2.2 | (with_reducible refine Kd.C_alloc ?_ _) | (with_reducible refine Kd.C_drewN ?_ _) | (with_reducible refine Kd.C_drew ?_))); (case side2 => rw [show t896.length = t881.length from (Kd.R_reads' HO_8.out).1.symm]; exact (Kd.R_reads' HO_8.out).2.1); rintro e w' ⟨rfl, ⟨nd, rfl⟩⟩; refine ⟨_, rfl, ?_⟩; have hcz74_0 : w73.cell? ⟨gb861, 0, none⟩ = some (.int .i64 a0_0) := (blk_cell BK861.out 0).trans rfl; have hcz74_1 : w73.cell? ⟨gb861, 1, none⟩ = some (.slice A0_1 l0_1.length c0_1) := (blk_cell BK861.out 1).trans rfl; have hcz74_2 : w73.cell? ⟨gb861, 2, none⟩ = some (.slice A0_2 l0_2.length c0_2) := (blk_cell BK861.out 2).trans rfl; have hfz74_0 := blk_frozen BK861.out 0; have hfz74_1 := blk_frozen BK861.out 1; have hfz74_2 := blk_frozen BK861.out 2) | ((with_reducible refine gate_callee (f := 13) rfl ?_); refine goesL_ (some 59) rfl rfl Try.func13 (by kernel_rfl) rfl #[.agg #[.int .i64 a0_0, .slice A0_1 l0_1.length c0_1, .slice A0_2 l0_2.length c0_2]] rfl lz ?_; (with_reducible refine (laws_toVFunc.calls kj17 a0_0 _ _ l0_1 _ _ l0_2 t898 t899 t902 _ ?side1 ?side2 ?side3 ?side4 A52.out).mono ?_); (case side1 => exact cz HR0_1.out); (case side2 => exact HC0_1.out); (case side3 => exact cz HR0_2.out); (case side4 => exact HC0_2.out); rintro e w75 ⟨v900, v903, rfl, ho0, ho1, hb⟩; refine ⟨_, rfl, ?_⟩; have n0_ := Aside0.mk (Kd.R_elder' (rz HO_6.out) (Kd.R_base ho0) hb); have n1_ := Aside0.mk (Kd.R_elder' (rz HO_8.out) (Kd.R_base ho0) hb); have n2_ := Aside0.mk (Kd.R_lower (Kd.R_new' (Kd.R_new' ho0 (Kd.R_lt (rz HO_6.out))) (Kd.R_lt (rz HO_8.out))) (below_size bz)); have n3_ := Aside0.mk (Kd.R_lower (Kd.R_new' (Kd.R_new' ho1 (Kd.R_lt (rz HO_6.out))) (Kd.R_lt (rz HO_8.out))) (below_size bz)); have n4_ := Aside0.mk (blk_below (g := gb861) (o := .cells #[.int .i64 a0_0, .slice A0_1 l0_1.length c0_1, .slice A0_2 l0_2.length c0_2] 25 (0, 0)) kz hb); have n5_ := Aside0.mk (below_step bz hb); clear HO_6; clear HO_8; clear BK861; clear HB; have HO_6 := n0_; have HO_8 := n1_; have HO901 := n2_; have HO904 := n3_; have BK861 := n4_; have HB := n5_; clear n0_ n1_ n2_ n3_ n4_ n5_; (try clear hb); (try clear hb2); (try clear hk); (try clear hi); (try clear ho0); (try clear ho1); obtain ⟨Ao76, co76, eo76⟩ := Kd.R_slice HO901.out; subst eo76; obtain ⟨Ao77, co77, eo77⟩ := Kd.R_slice HO904.out; subst eo77) | ((with_reducible refine gate_callee (f := 19) rfl ?_); refine goesL_ (some 61) rfl rfl Try.func19 (by kernel_rfl) rfl #[.agg #[.int .i64 t898, .slice Ao76 t899.length co76, .slice Ao77 t902.length co77], .int .i64 a1] rfl lz ?_; (with_reducible refine (impl_LiveRegs.calls kj17 t898 _ _ t899 _ _ t902 a1 t905 _ ?side1 ?side2 ?side3 ?side4 A53.out).mono ?_); (case side1 => repeat (first | exact (Kd.R_reads' HO901.out).2.2 | (with_reducible refine Kd.C_alloc ?_ _) | (with_reducible refine Kd.C_drewN ?_ _) | (with_reducible refine Kd.C_drew ?_))); (case side2 => exact (Kd.R_reads' HO901.out).2.1); (case side3 => repeat (first | exact (Kd.R_reads' HO904.out).2.2 | (with_reducible refine Kd.C_alloc ?_ _) | (with_reducible refine Kd.C_drewN ?_ _) | (with_reducible refine Kd.C_drew ?_))); (case side4 => exact (Kd.R_reads' HO904.out).2.1); rintro e w78 ⟨v906, rfl, ho0, hb⟩; refine ⟨_, rfl, ?_⟩; have n0_ := Aside0.mk (Kd.R_elder' (rz HO_6.out) (Kd.R_base ho0) hb); have n1_ := Aside0.mk (Kd.R_elder' (rz HO_8.out) (Kd.R_base ho0) hb); have n2_ := Aside0.mk (Kd.R_elder' (rz HO901.out) (Kd.R_base ho0) hb); have n3_ := Aside0.mk (Kd.R_elder' (rz HO904.out) (Kd.R_base ho0) hb); have n4_ := Aside0.mk (Kd.R_lower (Kd.R_new' (Kd.R_new' (Kd.R_new' ho0 (Kd.R_lt (rz HO_6.out))) (Kd.R_lt (rz HO_8.out))) (Kd.R_lt (rz HO901.out))) (below_size bz)); have n5_ := Aside0.mk (blk_below (g := gb861) (o := .cells #[.int .i64 a0_0, .slice A0_1 l0_1.length c0_1, .slice A0_2 l0_2.length c0_2] 25 (0, 0)) kz hb); have n6_ := Aside0.mk (below_step bz hb); clear HO_6; clear HO_8; clear HO901; clear HO904; clear BK861; clear HB; have HO_6 := n0_; have HO_8 := n1_; have HO901 := n2_; have HO904 := n3_; have HO907 := n4_; have BK861 := n5_; have HB := n6_; clear n0_ n1_ n2_ n3_ n4_ n5_ n6_; (try clear hb); (try clear hb2); (try clear hk); (try clear hi); (try clear ho0); obtain ⟨Ao79, co79, eo79⟩ := Kd.R_slice HO907.out; subst eo79) | ((with_reducible refine gate_callee (f := 20) rfl ?_); refine goesL_ (some 64) rfl rfl Try.func20 (by kernel_rfl) rfl #[.slice Ao79 t905.length co79, .slice Ao36 t870.length co36] rfl lz ?_; (with_reducible refine (laws_eqInt64S.calls kj17 _ _ t905 _ _ t870 true _ ?side1 ?side2 ?side3 ?side4 A54.out).mono ?_); (case side1 => repeat (first | exact (Kd.R_reads' HO907.out).2.2 | (with_reducible refine Kd.C_alloc ?_ _) | (with_reducible refine Kd.C_drewN ?_ _) | (with_reducible refine Kd.C_drew ?_))); (case side2 => exact (Kd.R_reads' HO907.out).2.1); (case side3 => repeat (first | exact (Kd.R_reads' HO_6.out).2.2 | (with_reducible refine Kd.C_alloc ?_ _) | (with_reducible refine Kd.C_drewN ?_ _) | (with_reducible refine Kd.C_drew ?_))); (case side4 => exact (Kd.R_reads' HO_6.out).2.1); rintro e w' ⟨rfl, ⟨nd, rfl⟩⟩; refine ⟨_, rfl, ?_⟩) | ((with_reducible refine gate_callee (f := 22) rfl ?_); refine goesL_ (some 68) rfl rfl Try.func22 (by kernel_rfl) rfl #[.slice Ao35 t896.length co35, .int .i64 1] rfl (by (try simp only [List.map_toArray, List.map_cons, List.map_nil]); first | done | (rw [show t896.length = t881.length from (Kd.R_reads' HO_8.out).1.symm] <;> rfl) | rfl | (simp only [List.length_drop, List.length_take]; rfl)) ?_; (with_reducible refine (laws_heldInt64S.calls kj17 _ _ t896 1 t909 _ ?side1 ?side2 A56.out).mono ?_); (case side1 => repeat (first | exact (Kd.R_reads' HO_8.out).2.2 | (with_reducible refine Kd.C_alloc ?_ _) | (with_reducible refine Kd.C_drewN ?_ _) | (with_reducible refine Kd.C_drew ?_))); (case side2 => rw [show t896.length = t881.length from (Kd.R_reads' HO_8.out).1.symm]; exact (Kd.R_reads' HO_8.out).2.1); rintro e w' ⟨rfl, ⟨nd, rfl⟩⟩; refine ⟨_, rfl, ?_⟩))
                     go_ret
                     exact ⟨by first | rfl | (simp [errW_none, errW_some] <;> rfl) | (simp [*, errW_none, errW_some] <;> rfl), bz⟩
               · replace c55 := Bool.eq_false_iff.mpr c55
                 subst c55
                 have H1 : (some false) = some r := by rw [if_neg (show ¬ (false = true) by decide)] at H; exact H
                 clear H
                 have H := H1
                 clear H1
                 obtain rfl := Option.some.inj H
                 go_wp2_with (first | ((with_reducible refine gate_callee (f := 21) rfl ?_); refine goesL_ (some 49) rfl rfl Try.func21 (by kernel_rfl) rfl #[.slice Ao35 t881.length co35, .int .i64 1] rfl lz ?_; (with_reducible refine (laws_markInt64S.calls kj17 (fun k_ => some k_ = (.slice Ao35 t881.length co35 : Value).ownBlock) (.slice Ao35 t881.length co35) t881 1 t895 t896 w _ ?side1 ?side2 A47.out).mono ?_); (case side1 => repeat (first | (with_reducible first | exact HB.out | apply below_alloc | apply pw_below_drewN | apply below_drew1 | refine below_set ?_ GE861.out) | exact HB.out)); (case side2 => exact Kd.R_tight rfl HO_8.out); rintro e w80 ⟨rfl, hy0, hb, hkp⟩; refine ⟨_, rfl, ?_⟩; have n0_ := Aside0.mk (Kd.R_mono (ok' := fun k_ => some k_ ≠ (.slice Ao35 t881.length co35 : Value).ownBlock) (Kd.R_keptB (HO_6.out) hkp (fun k_ hk_ hs_ => (hk_) hs_)) (fun k_ hk_ => hk_.1)); have n1_ := Aside0.mk (Kd.R_reok rfl hy0 (fun k_ e_ => HO_8.out.1 k_ e_)); have n2_ := Aside0.mk (blk_kept kz hkp (fun hs_ => (fun e_ => (Kd.R_ne HO_8.out BK861.out (by decide)) e_) hs_)); have n3_ := Aside0.mk (hb); clear HO_6; clear HO_8; clear BK861; clear HB; have HO_6 := n0_; have HO_8 := n1_; have BK861 := n2_; have HB := n3_; clear n0_ n1_ n2_ n3_; (try clear hb); (try clear hkp); (try clear hy0)) | ((with_reducible refine gate_callee (f := 22) rfl ?_); refine goesL_ (some 52) rfl rfl Try.func22 (by kernel_rfl) rfl #[.slice Ao35 t896.length co35, .int .i64 1] rfl (by (try simp only [List.map_toArray, List.map_cons, List.map_nil]); first | done | (rw [show t896.length = t881.length from (Kd.R_reads' HO_8.out).1.symm] <;> rfl) | rfl | (simp only [List.length_drop, List.length_take]; rfl)) ?_; (with_reducible refine (laws_heldInt64S.calls kj17 _ _ t896 1 t897 _ ?side1 ?side2 A48.out).mono ?_); (case side1 => repeat (first | exact (Kd.R_reads' HO_8.out).2.2 | (with_reducible refine Kd.C_alloc ?_ _) | (with_reducible refine Kd.C_drewN ?_ _) | (with_reducible refine Kd.C_drew ?_))); (case side2 => rw [show t896.length = t881.length from (Kd.R_reads' HO_8.out).1.symm]; exact (Kd.R_reads' HO_8.out).2.1); rintro e w' ⟨rfl, ⟨nd, rfl⟩⟩; refine ⟨_, rfl, ?_⟩; have hcz81_0 : w80.cell? ⟨gb861, 0, none⟩ = some (.int .i64 a0_0) := (blk_cell BK861.out 0).trans rfl; have hcz81_1 : w80.cell? ⟨gb861, 1, none⟩ = some (.slice A0_1 l0_1.length c0_1) := (blk_cell BK861.out 1).trans rfl; have hcz81_2 : w80.cell? ⟨gb861, 2, none⟩ = some (.slice A0_2 l0_2.length c0_2) := (blk_cell BK861.out 2).trans rfl; have hfz81_0 := blk_frozen BK861.out 0; have hfz81_1 := blk_frozen BK861.out 1; have hfz81_2 := blk_frozen BK861.out 2) | ((with_reducible refine gate_callee (f := 13) rfl ?_); refine goesL_ (some 59) rfl rfl Try.func13 (by kernel_rfl) rfl #[.agg #[.int .i64 a0_0, .slice A0_1 l0_1.length c0_1, .slice A0_2 l0_2.length c0_2]] rfl lz ?_; (with_reducible refine (laws_toVFunc.calls kj17 a0_0 _ _ l0_1 _ _ l0_2 t898 t899 t902 _ ?side1 ?side2 ?side3 ?side4 A52.out).mono ?_); (case side1 => exact cz HR0_1.out); (case side2 => exact HC0_1.out); (case side3 => exact cz HR0_2.out); (case side4 => exact HC0_2.out); rintro e w82 ⟨v900, v903, rfl, ho0, ho1, hb⟩; refine ⟨_, rfl, ?_⟩; have n0_ := Aside0.mk (Kd.R_elder' (rz HO_6.out) (Kd.R_base ho0) hb); have n1_ := Aside0.mk (Kd.R_elder' (rz HO_8.out) (Kd.R_base ho0) hb); have n2_ := Aside0.mk (Kd.R_lower (Kd.R_new' (Kd.R_new' ho0 (Kd.R_lt (rz HO_6.out))) (Kd.R_lt (rz HO_8.out))) (below_size bz)); have n3_ := Aside0.mk (Kd.R_lower (Kd.R_new' (Kd.R_new' ho1 (Kd.R_lt (rz HO_6.out))) (Kd.R_lt (rz HO_8.out))) (below_size bz)); have n4_ := Aside0.mk (blk_below (g := gb861) (o := .cells #[.int .i64 a0_0, .slice A0_1 l0_1.length c0_1, .slice A0_2 l0_2.length c0_2] 25 (0, 0)) kz hb); have n5_ := Aside0.mk (below_step bz hb); clear HO_6; clear HO_8; clear BK861; clear HB; have HO_6 := n0_; have HO_8 := n1_; have HO901 := n2_; have HO904 := n3_; have BK861 := n4_; have HB := n5_; clear n0_ n1_ n2_ n3_ n4_ n5_; (try clear hb); (try clear hb2); (try clear hk); (try clear hi); (try clear ho0); (try clear ho1); obtain ⟨Ao83, co83, eo83⟩ := Kd.R_slice HO901.out; subst eo83; obtain ⟨Ao84, co84, eo84⟩ := Kd.R_slice HO904.out; subst eo84) | ((with_reducible refine gate_callee (f := 19) rfl ?_); refine goesL_ (some 61) rfl rfl Try.func19 (by kernel_rfl) rfl #[.agg #[.int .i64 t898, .slice Ao83 t899.length co83, .slice Ao84 t902.length co84], .int .i64 a1] rfl lz ?_; (with_reducible refine (impl_LiveRegs.calls kj17 t898 _ _ t899 _ _ t902 a1 t905 _ ?side1 ?side2 ?side3 ?side4 A53.out).mono ?_); (case side1 => repeat (first | exact (Kd.R_reads' HO901.out).2.2 | (with_reducible refine Kd.C_alloc ?_ _) | (with_reducible refine Kd.C_drewN ?_ _) | (with_reducible refine Kd.C_drew ?_))); (case side2 => exact (Kd.R_reads' HO901.out).2.1); (case side3 => repeat (first | exact (Kd.R_reads' HO904.out).2.2 | (with_reducible refine Kd.C_alloc ?_ _) | (with_reducible refine Kd.C_drewN ?_ _) | (with_reducible refine Kd.C_drew ?_))); (case side4 => exact (Kd.R_reads' HO904.out).2.1); rintro e w85 ⟨v906, rfl, ho0, hb⟩; refine ⟨_, rfl, ?_⟩; have n0_ := Aside0.mk (Kd.R_elder' (rz HO_6.out) (Kd.R_base ho0) hb); have n1_ := Aside0.mk (Kd.R_elder' (rz HO_8.out) (Kd.R_base ho0) hb); have n2_ := Aside0.mk (Kd.R_elder' (rz HO901.out) (Kd.R_base ho0) hb); have n3_ := Aside0.mk (Kd.R_elder' (rz HO904.out) (Kd.R_base ho0) hb); have n4_ := Aside0.mk (Kd.R_lower (Kd.R_new' (Kd.R_new' (Kd.R_new' ho0 (Kd.R_lt (rz HO_6.out))) (Kd.R_lt (rz HO_8.out))) (Kd.R_lt (rz HO901.out))) (below_size bz)); have n5_ := Aside0.mk (blk_below (g := gb861) (o := .cells #[.int .i64 a0_0, .slice A0_1 l0_1.length c0_1, .slice A0_2 l0_2.length c0_2] 25 (0, 0)) kz hb); have n6_ := Aside0.mk (below_step bz hb); clear HO_6; clear HO_8; clear HO901; clear HO904; clear BK861; clear HB; have HO_6 := n0_; have HO_8 := n1_; have HO901 := n2_; have HO904 := n3_; have HO907 := n4_; have BK861 := n5_; have HB := n6_; clear n0_ n1_ n2_ n3_ n4_ n5_ n6_; (try clear hb); (try clear hb2); (try clear hk); (try clear hi); (try clear ho0); obtain ⟨Ao86, co86, eo86⟩ := Kd.R_slice HO907.out; subst eo86) | ((with_reducible refine gate_callee (f := 20) rfl ?_); refine goesL_ (some 64) rfl rfl Try.func20 (by kernel_rfl) rfl #[.slice Ao86 t905.length co86, .slice Ao36 t870.length co36] rfl lz ?_; (with_reducible refine (laws_eqInt64S.calls kj17 _ _ t905 _ _ t870 false _ ?side1 ?side2 ?side3 ?side4 A54.out).mono ?_); (case side1 => repeat (first | exact (Kd.R_reads' HO907.out).2.2 | (with_reducible refine Kd.C_alloc ?_ _) | (with_reducible refine Kd.C_drewN ?_ _) | (with_reducible refine Kd.C_drew ?_))); (case side2 => exact (Kd.R_reads' HO907.out).2.1); (case side3 => repeat (first | exact (Kd.R_reads' HO_6.out).2.2 | (with_reducible refine Kd.C_alloc ?_ _) | (with_reducible refine Kd.C_drewN ?_ _) | (with_reducible refine Kd.C_drew ?_))); (case side4 => exact (Kd.R_reads' HO_6.out).2.1); rintro e w' ⟨rfl, ⟨nd, rfl⟩⟩; refine ⟨_, rfl, ?_⟩))
                 go_ret
                 exact ⟨by first | rfl | (simp [errW_none, errW_some] <;> rfl) | (simp [*, errW_none, errW_some] <;> rfl), bz⟩
             · rw [if_neg c51] at H
               have c51b0 : (t897 == t895) = false := beq_eq_false_iff_ne.mpr c51
               have c51b1 : (t897 != t895) = true := bne_iff_ne.mpr c51
               obtain rfl := Option.some.inj H
               go_wp2_with (first | ((with_reducible refine gate_callee (f := 21) rfl ?_); refine goesL_ (some 49) rfl rfl Try.func21 (by kernel_rfl) rfl #[.slice Ao35 t881.length co35, .int .i64 1] rfl lz ?_; (with_reducible refine (laws_markInt64S.calls kj17 (fun k_ => some k_ = (.slice Ao35 t881.length co35 : Value).ownBlock) (.slice Ao35 t881.length co35) t881 1 t895 t896 w _ ?side1 ?side2 A47.out).mono ?_); (case side1 => repeat (first | (with_reducible first | exact HB.out | apply below_alloc | apply pw_below_drewN | apply below_drew1 | refine below_set ?_ GE861.out) | exact HB.out)); (case side2 => exact Kd.R_tight rfl HO_8.out); rintro e w87 ⟨rfl, hy0, hb, hkp⟩; refine ⟨_, rfl, ?_⟩; have n0_ := Aside0.mk (Kd.R_mono (ok' := fun k_ => some k_ ≠ (.slice Ao35 t881.length co35 : Value).ownBlock) (Kd.R_keptB (HO_6.out) hkp (fun k_ hk_ hs_ => (hk_) hs_)) (fun k_ hk_ => hk_.1)); have n1_ := Aside0.mk (Kd.R_reok rfl hy0 (fun k_ e_ => HO_8.out.1 k_ e_)); have n2_ := Aside0.mk (blk_kept kz hkp (fun hs_ => (fun e_ => (Kd.R_ne HO_8.out BK861.out (by decide)) e_) hs_)); have n3_ := Aside0.mk (hb); clear HO_6; clear HO_8; clear BK861; clear HB; have HO_6 := n0_; have HO_8 := n1_; have BK861 := n2_; have HB := n3_; clear n0_ n1_ n2_ n3_; (try clear hb); (try clear hkp); (try clear hy0)) | ((with_reducible refine gate_callee (f := 22) rfl ?_); refine goesL_ (some 52) rfl rfl Try.func22 (by kernel_rfl) rfl #[.slice Ao35 t896.length co35, .int .i64 1] rfl (by (try simp only [List.map_toArray, List.map_cons, List.map_nil]); first | done | (rw [show t896.length = t881.length from (Kd.R_reads' HO_8.out).1.symm] <;> rfl) | rfl | (simp only [List.length_drop, List.length_take]; rfl)) ?_; (with_reducible refine (laws_heldInt64S.calls kj17 _ _ t896 1 t897 _ ?side1 ?side2 A48.out).mono ?_); (case side1 => repeat (first | exact (Kd.R_reads' HO_8.out).2.2 | (with_reducible refine Kd.C_alloc ?_ _) | (with_reducible refine Kd.C_drewN ?_ _) | (with_reducible refine Kd.C_drew ?_))); (case side2 => rw [show t896.length = t881.length from (Kd.R_reads' HO_8.out).1.symm]; exact (Kd.R_reads' HO_8.out).2.1); rintro e w' ⟨rfl, ⟨nd, rfl⟩⟩; refine ⟨_, rfl, ?_⟩))
               go_ret
               exact ⟨by first | rfl | (simp [errW_none, errW_some] <;> rfl) | (simp [*, errW_none, errW_some] <;> rfl), bz⟩
     · replace c16 := Bool.eq_false_iff.mpr c16
       subst c16
       have H1 : (some false) = some r := by rw [if_neg (show ¬ (false = true) by decide)] at H; exact H
       clear H
       have H := H1
       clear H1
       obtain rfl := Option.some.inj H
       go_enter Try.func4, Try.ntmps4
       try go_wp2_with (first | ((with_reducible refine gate_dst (N := 2) rfl ?_); refine box_event ?hg (N := 2) ?hd (cs := #[.int .i64 a0_0, .slice A0_1 l0_1.length c0_1, .slice A0_2 l0_2.length c0_2]) (t := 25) ?hr ?_; (case hd => rfl); (case hg => rfl); (case hr => first | (go_simp; done) | (go_simp; rfl)); intro gb861 hg w88 hbox hb; have n0_ := Aside0.mk (below_step bz hb); have n1_ := Aside0.mk (hbox); have n2_ := Aside0.mk ((by rw [hg]; exact (below_size bz) : w.heap.size ≤ gb861)); have n3_ := Aside0.mk ((by rw [hg]; exact (below_size bz) : w.heap.size ≤ gb861)); clear HB; have HB := n0_; have BK861 := n1_; have GW861 := n2_; have GE861 := n3_; clear n0_ n1_ n2_ n3_; clear hb hbox hg; have hcz89_0 : w88.cell? ⟨gb861, 0, none⟩ = some (.int .i64 a0_0) := (blk_cell BK861.out 0).trans rfl; have hcz89_1 : w88.cell? ⟨gb861, 1, none⟩ = some (.slice A0_1 l0_1.length c0_1) := (blk_cell BK861.out 1).trans rfl; have hcz89_2 : w88.cell? ⟨gb861, 2, none⟩ = some (.slice A0_2 l0_2.length c0_2) := (blk_cell BK861.out 2).trans rfl; have hfz89_0 := blk_frozen BK861.out 0; have hfz89_1 := blk_frozen BK861.out 1; have hfz89_2 := blk_frozen BK861.out 2) | ((with_reducible refine gate_callee (f := 11) rfl ?_); refine goesL_ (some 15) rfl rfl Try.func11 (by kernel_rfl) rfl #[.agg #[.int .i64 a0_0, .slice A0_1 l0_1.length c0_1, .slice A0_2 l0_2.length c0_2], .int .i64 1048576] rfl lz ?_; (with_reducible refine (laws_szVFunc.calls k a0_0 _ _ l0_1 _ _ l0_2 1048576 t862 _ ?side1 ?side2 ?side3 ?side4 A3.out).mono ?_); (case side1 => exact cz HR0_1.out); (case side2 => exact HC0_1.out); (case side3 => exact cz HR0_2.out); (case side4 => exact HC0_2.out); rintro e w90 ⟨rfl, hb⟩; refine ⟨_, rfl, ?_⟩; have n0_ := Aside0.mk (blk_below (g := gb861) (o := .cells #[.int .i64 a0_0, .slice A0_1 l0_1.length c0_1, .slice A0_2 l0_2.length c0_2] 25 (0, 0)) kz hb); have n1_ := Aside0.mk (below_step bz hb); clear BK861; clear HB; have BK861 := n0_; have HB := n1_; clear n0_ n1_; (try clear hb); (try clear hb2); (try clear hk); (try clear hi); have hcz91_0 : w90.cell? ⟨gb861, 0, none⟩ = some (.int .i64 a0_0) := (blk_cell BK861.out 0).trans rfl; have hcz91_1 : w90.cell? ⟨gb861, 1, none⟩ = some (.slice A0_1 l0_1.length c0_1) := (blk_cell BK861.out 1).trans rfl; have hcz91_2 : w90.cell? ⟨gb861, 2, none⟩ = some (.slice A0_2 l0_2.length c0_2) := (blk_cell BK861.out 2).trans rfl; have hfz91_0 := blk_frozen BK861.out 0; have hfz91_1 := blk_frozen BK861.out 1; have hfz91_2 := blk_frozen BK861.out 2) | ((with_reducible refine gate_callee (f := 13) rfl ?_); refine goesL_ (some 19) rfl rfl Try.func13 (by kernel_rfl) rfl #[.agg #[.int .i64 a0_0, .slice A0_1 l0_1.length c0_1, .slice A0_2 l0_2.length c0_2]] rfl lz ?_; (with_reducible refine (laws_toVFunc.calls k a0_0 _ _ l0_1 _ _ l0_2 t863 t864 t867 _ ?side1 ?side2 ?side3 ?side4 A8.out).mono ?_); (case side1 => exact cz HR0_1.out); (case side2 => exact HC0_1.out); (case side3 => exact cz HR0_2.out); (case side4 => exact HC0_2.out); rintro e w92 ⟨v865, v868, rfl, ho0, ho1, hb⟩; refine ⟨_, rfl, ?_⟩; have n0_ := Aside0.mk (Kd.R_lower ho0 (below_size bz)); have n1_ := Aside0.mk (Kd.R_lower ho1 (below_size bz)); have n2_ := Aside0.mk (blk_below (g := gb861) (o := .cells #[.int .i64 a0_0, .slice A0_1 l0_1.length c0_1, .slice A0_2 l0_2.length c0_2] 25 (0, 0)) kz hb); have n3_ := Aside0.mk (below_step bz hb); clear BK861; clear HB; have HO866 := n0_; have HO869 := n1_; have BK861 := n2_; have HB := n3_; clear n0_ n1_ n2_ n3_; (try clear hb); (try clear hb2); (try clear hk); (try clear hi); (try clear ho0); (try clear ho1); obtain ⟨Ao93, co93, eo93⟩ := Kd.R_slice HO866.out; subst eo93; obtain ⟨Ao94, co94, eo94⟩ := Kd.R_slice HO869.out; subst eo94) | ((with_reducible refine gate_callee (f := 18) rfl ?_); refine goesL_ (some 21) rfl rfl Try.func18 (by kernel_rfl) rfl #[.agg #[.int .i64 t863, .slice Ao93 t864.length co93, .slice Ao94 t867.length co94], .int .i64 a1] rfl lz ?_; (with_reducible refine (spec_LiveRegs.calls k t863 _ _ t864 _ _ t867 a1 t870 _ ?side1 ?side2 ?side3 ?side4 A9.out).mono ?_); (case side1 => repeat (first | exact (Kd.R_reads' HO866.out).2.2 | (with_reducible refine Kd.C_alloc ?_ _) | (with_reducible refine Kd.C_drewN ?_ _) | (with_reducible refine Kd.C_drew ?_))); (case side2 => exact (Kd.R_reads' HO866.out).2.1); (case side3 => repeat (first | exact (Kd.R_reads' HO869.out).2.2 | (with_reducible refine Kd.C_alloc ?_ _) | (with_reducible refine Kd.C_drewN ?_ _) | (with_reducible refine Kd.C_drew ?_))); (case side4 => exact (Kd.R_reads' HO869.out).2.1); rintro e w95 ⟨v871, rfl, ho0, hb⟩; refine ⟨_, rfl, ?_⟩; have n0_ := Aside0.mk (Kd.R_elder' (rz HO866.out) (Kd.R_base ho0) hb); have n1_ := Aside0.mk (Kd.R_elder' (rz HO869.out) (Kd.R_base ho0) hb); have n2_ := Aside0.mk (Kd.R_lower (Kd.R_new' ho0 (Kd.R_lt (rz HO866.out))) (below_size bz)); have n3_ := Aside0.mk (blk_below (g := gb861) (o := .cells #[.int .i64 a0_0, .slice A0_1 l0_1.length c0_1, .slice A0_2 l0_2.length c0_2] 25 (0, 0)) kz hb); have n4_ := Aside0.mk (below_step bz hb); clear HO866; clear HO869; clear BK861; clear HB; have HO866 := n0_; have HO869 := n1_; have HO872 := n2_; have BK861 := n3_; have HB := n4_; clear n0_ n1_ n2_ n3_ n4_; (try clear hb); (try clear hb2); (try clear hk); (try clear hi); (try clear ho0); have hcz96_0 : w95.cell? ⟨gb861, 0, none⟩ = some (.int .i64 a0_0) := (blk_cell BK861.out 0).trans rfl; have hcz96_1 : w95.cell? ⟨gb861, 1, none⟩ = some (.slice A0_1 l0_1.length c0_1) := (blk_cell BK861.out 1).trans rfl; have hcz96_2 : w95.cell? ⟨gb861, 2, none⟩ = some (.slice A0_2 l0_2.length c0_2) := (blk_cell BK861.out 2).trans rfl; have hfz96_0 := blk_frozen BK861.out 0; have hfz96_1 := blk_frozen BK861.out 1; have hfz96_2 := blk_frozen BK861.out 2) | ((with_reducible refine gate_callee (f := 13) rfl ?_); refine goesL_ (some 23) rfl rfl Try.func13 (by kernel_rfl) rfl #[.agg #[.int .i64 a0_0, .slice A0_1 l0_1.length c0_1, .slice A0_2 l0_2.length c0_2]] rfl lz ?_; (with_reducible refine (laws_toVFunc.calls k a0_0 _ _ l0_1 _ _ l0_2 t873 t874 t877 _ ?side1 ?side2 ?side3 ?side4 A10.out).mono ?_); (case side1 => exact cz HR0_1.out); (case side2 => exact HC0_1.out); (case side3 => exact cz HR0_2.out); (case side4 => exact HC0_2.out); rintro e w97 ⟨v875, v878, rfl, ho0, ho1, hb⟩; refine ⟨_, rfl, ?_⟩; have n0_ := Aside0.mk (Kd.R_elder' (rz HO866.out) (Kd.R_base ho0) hb); have n1_ := Aside0.mk (Kd.R_mono (Kd.R_told (Kd.R_told (Kd.R_old (rz HO869.out) hb) (Kd.R_base ho0)) (Kd.R_base ho1)) (fun _ h_ => h_.1)); have n2_ := Aside0.mk (Kd.R_elder' (rz HO872.out) (Kd.R_base ho0) hb); have n3_ := Aside0.mk (Kd.R_lower (Kd.R_new' (Kd.R_new' ho0 (Kd.R_lt (rz HO866.out))) (Kd.R_lt (rz HO872.out))) (below_size bz)); have n4_ := Aside0.mk (Kd.R_lower (Kd.R_new' (Kd.R_new' (Kd.R_new' ho1 (Kd.R_lt (rz HO866.out))) (Kd.R_lt (rz HO869.out))) (Kd.R_lt (rz HO872.out))) (below_size bz)); have n5_ := Aside0.mk (blk_below (g := gb861) (o := .cells #[.int .i64 a0_0, .slice A0_1 l0_1.length c0_1, .slice A0_2 l0_2.length c0_2] 25 (0, 0)) kz hb); have n6_ := Aside0.mk (below_step bz hb); clear HO866; clear HO869; clear HO872; clear BK861; clear HB; have HO866 := n0_; have HO869 := n1_; have HO872 := n2_; have HO876 := n3_; have HO879 := n4_; have BK861 := n5_; have HB := n6_; clear n0_ n1_ n2_ n3_ n4_ n5_ n6_; (try clear hb); (try clear hb2); (try clear hk); (try clear hi); (try clear ho0); (try clear ho1)) | ((with_reducible refine gate_dst (N := 7) rfl ?_); refine box_event ?hg (N := 7) ?hd (cs := #[.int .i64 0, .slice none 0 0, .slice none 0 0]) (t := 29) ?hr ?_; (case hd => rfl); (case hg => rfl); (case hr => first | (go_simp; done) | (go_simp; rfl)); intro gb880 hg w98 hbox hb; have n0_ := Aside0.mk (Kd.R_below (rz HO866.out) hb); have n1_ := Aside0.mk (Kd.R_below (rz HO869.out) hb); have n2_ := Aside0.mk (Kd.R_below (rz HO872.out) hb); have n3_ := Aside0.mk (Kd.R_below (rz HO876.out) hb); have n4_ := Aside0.mk (Kd.R_below (rz HO879.out) hb); have n5_ := Aside0.mk (blk_below (g := gb861) (o := .cells #[.int .i64 a0_0, .slice A0_1 l0_1.length c0_1, .slice A0_2 l0_2.length c0_2] 25 (0, 0)) kz hb); have n6_ := Aside0.mk (below_step bz hb); have n7_ := Aside0.mk (hbox); have n8_ := Aside0.mk ((by rw [hg]; exact (below_size bz) : w.heap.size ≤ gb880)); have n9_ := Aside0.mk ((by rw [hg]; exact (below_size bz) : w.heap.size ≤ gb880)); have n10_ := Aside0.mk ((by rw [hg]; exact Nat.ne_of_lt (blk_lt (g := gb861) (o := .cells #[.int .i64 a0_0, .slice A0_1 l0_1.length c0_1, .slice A0_2 l0_2.length c0_2] 25 (0, 0)) kz) : gb861 ≠ gb880)); have n11_ := Aside0.mk ((by rw [hg]; exact Nat.ne_of_gt (blk_lt (g := gb861) (o := .cells #[.int .i64 a0_0, .slice A0_1 l0_1.length c0_1, .slice A0_2 l0_2.length c0_2] 25 (0, 0)) kz) : gb880 ≠ gb861)); clear HO866; clear HO869; clear HO872; clear HO876; clear HO879; clear BK861; clear HB; have HO866 := n0_; have HO869 := n1_; have HO872 := n2_; have HO876 := n3_; have HO879 := n4_; have BK861 := n5_; have HB := n6_; have BK880 := n7_; have GW880 := n8_; have GE880 := n9_; have NB861_880 := n10_; have NB880_861 := n11_; clear n0_ n1_ n2_ n3_ n4_ n5_ n6_ n7_ n8_ n9_ n10_ n11_; clear hb hbox hg; have hnb99 := NB880_861.out; have hnc99 := NB861_880.out; have hcz100_0 : w98.cell? ⟨gb880, 0, none⟩ = some (.int .i64 0) := (blk_cell BK880.out 0).trans rfl; have hcz100_1 : w98.cell? ⟨gb880, 1, none⟩ = some (.slice none 0 0) := (blk_cell BK880.out 1).trans rfl; have hcz100_2 : w98.cell? ⟨gb880, 2, none⟩ = some (.slice none 0 0) := (blk_cell BK880.out 2).trans rfl; have hfz100_0 := blk_frozen BK880.out 0; have hfz100_1 := blk_frozen BK880.out 1; have hfz100_2 := blk_frozen BK880.out 2; obtain ⟨Ao101, co101, eo101⟩ := Kd.R_slice HO876.out; subst eo101; obtain ⟨Ao102, co102, eo102⟩ := Kd.R_slice HO879.out; subst eo102) | ((with_reducible refine gate_callee (f := 19) rfl ?_); refine goesL_ (some 26) rfl rfl Try.func19 (by kernel_rfl) rfl #[.agg #[.int .i64 t873, .slice Ao101 t874.length co101, .slice Ao102 t877.length co102], .int .i64 a1] rfl lz ?_; (with_reducible refine (impl_LiveRegs.calls k t873 _ _ t874 _ _ t877 a1 t881 _ ?side1 ?side2 ?side3 ?side4 A11.out).mono ?_); (case side1 => refine (Kd.R_reads' (e := 2) (base := w.heap.size) (ok := fun k_ => ((True ∧ some k_ ≠ (.slice Ao93 t864.length co93 : Value).ownBlock) ∧ some k_ ≠ (v871 : Value).ownBlock)) (n := t874.length) (c := co101) ?_).2.2; exact (by (with_reducible repeat (first | apply Kd.R_alloc | apply Kd.R_drewN | apply Kd.R_drew)); exact (Kd.R_mono (Kd.R_far (p := ⟨gb880, 2, none⟩) (Kd.R_far (p := ⟨gb880, 1, none⟩) (Kd.R_far (p := ⟨gb880, 0, none⟩) (Kd.R_types HO876.out BK880.out (by decide)) (fun _ hk => hk.2) (.int .i64 t873)) (fun _ hk => hk.2) (.slice Ao101 t874.length co101)) (fun _ hk => hk.2) (.slice Ao102 t877.length co102)) (fun _ h_ => h_.1)))); (case side2 => exact (Kd.R_reads' HO876.out).2.1); (case side3 => refine (Kd.R_reads' (e := 85) (base := w.heap.size) (ok := fun k_ => (((some k_ ≠ (.slice Ao101 t874.length co101 : Value).ownBlock ∧ some k_ ≠ (.slice Ao93 t864.length co93 : Value).ownBlock) ∧ some k_ ≠ (.slice Ao94 t867.length co94 : Value).ownBlock) ∧ some k_ ≠ (v871 : Value).ownBlock)) (n := t877.length) (c := co102) ?_).2.2; exact (by (with_reducible repeat (first | apply Kd.R_alloc | apply Kd.R_drewN | apply Kd.R_drew)); exact (Kd.R_mono (Kd.R_far (p := ⟨gb880, 2, none⟩) (Kd.R_far (p := ⟨gb880, 1, none⟩) (Kd.R_far (p := ⟨gb880, 0, none⟩) (Kd.R_types HO879.out BK880.out (by decide)) (fun _ hk => hk.2) (.int .i64 t873)) (fun _ hk => hk.2) (.slice Ao101 t874.length co101)) (fun _ hk => hk.2) (.slice Ao102 t877.length co102)) (fun _ h_ => h_.1)))); (case side4 => exact (Kd.R_reads' HO879.out).2.1); rintro e w103 ⟨v882, rfl, ho0, hb⟩; refine ⟨_, rfl, ?_⟩; have n0_ := Aside0.mk (Kd.R_elder' (by (with_reducible repeat (first | apply Kd.R_alloc | apply Kd.R_drewN | apply Kd.R_drew)); exact (Kd.R_mono (Kd.R_far (p := ⟨gb880, 2, none⟩) (Kd.R_far (p := ⟨gb880, 1, none⟩) (Kd.R_far (p := ⟨gb880, 0, none⟩) (Kd.R_types HO866.out BK880.out (by decide)) (fun _ hk => hk.2) (.int .i64 t873)) (fun _ hk => hk.2) (.slice Ao101 t874.length co101)) (fun _ hk => hk.2) (.slice Ao102 t877.length co102)) (fun _ h_ => h_.1))) (Kd.R_base ho0) hb); have n1_ := Aside0.mk (Kd.R_elder' (by (with_reducible repeat (first | apply Kd.R_alloc | apply Kd.R_drewN | apply Kd.R_drew)); exact (Kd.R_mono (Kd.R_far (p := ⟨gb880, 2, none⟩) (Kd.R_far (p := ⟨gb880, 1, none⟩) (Kd.R_far (p := ⟨gb880, 0, none⟩) (Kd.R_types HO869.out BK880.out (by decide)) (fun _ hk => hk.2) (.int .i64 t873)) (fun _ hk => hk.2) (.slice Ao101 t874.length co101)) (fun _ hk => hk.2) (.slice Ao102 t877.length co102)) (fun _ h_ => h_.1))) (Kd.R_base ho0) hb); have n2_ := Aside0.mk (Kd.R_elder' (by (with_reducible repeat (first | apply Kd.R_alloc | apply Kd.R_drewN | apply Kd.R_drew)); exact (Kd.R_mono (Kd.R_far (p := ⟨gb880, 2, none⟩) (Kd.R_far (p := ⟨gb880, 1, none⟩) (Kd.R_far (p := ⟨gb880, 0, none⟩) (Kd.R_types HO872.out BK880.out (by decide)) (fun _ hk => hk.2) (.int .i64 t873)) (fun _ hk => hk.2) (.slice Ao101 t874.length co101)) (fun _ hk => hk.2) (.slice Ao102 t877.length co102)) (fun _ h_ => h_.1))) (Kd.R_base ho0) hb); have n3_ := Aside0.mk (Kd.R_elder' (by (with_reducible repeat (first | apply Kd.R_alloc | apply Kd.R_drewN | apply Kd.R_drew)); exact (Kd.R_mono (Kd.R_far (p := ⟨gb880, 2, none⟩) (Kd.R_far (p := ⟨gb880, 1, none⟩) (Kd.R_far (p := ⟨gb880, 0, none⟩) (Kd.R_types HO876.out BK880.out (by decide)) (fun _ hk => hk.2) (.int .i64 t873)) (fun _ hk => hk.2) (.slice Ao101 t874.length co101)) (fun _ hk => hk.2) (.slice Ao102 t877.length co102)) (fun _ h_ => h_.1))) (Kd.R_base ho0) hb); have n4_ := Aside0.mk (Kd.R_elder' (by (with_reducible repeat (first | apply Kd.R_alloc | apply Kd.R_drewN | apply Kd.R_drew)); exact (Kd.R_mono (Kd.R_far (p := ⟨gb880, 2, none⟩) (Kd.R_far (p := ⟨gb880, 1, none⟩) (Kd.R_far (p := ⟨gb880, 0, none⟩) (Kd.R_types HO879.out BK880.out (by decide)) (fun _ hk => hk.2) (.int .i64 t873)) (fun _ hk => hk.2) (.slice Ao101 t874.length co101)) (fun _ hk => hk.2) (.slice Ao102 t877.length co102)) (fun _ h_ => h_.1))) (Kd.R_base ho0) hb); have n5_ := Aside0.mk (Kd.R_lower (Kd.R_new' (Kd.R_new' (Kd.R_new' ho0 (Kd.R_lt (by (with_reducible repeat (first | apply Kd.R_alloc | apply Kd.R_drewN | apply Kd.R_drew)); exact (Kd.R_mono (Kd.R_far (p := ⟨gb880, 2, none⟩) (Kd.R_far (p := ⟨gb880, 1, none⟩) (Kd.R_far (p := ⟨gb880, 0, none⟩) (Kd.R_types HO866.out BK880.out (by decide)) (fun _ hk => hk.2) (.int .i64 t873)) (fun _ hk => hk.2) (.slice Ao101 t874.length co101)) (fun _ hk => hk.2) (.slice Ao102 t877.length co102)) (fun _ h_ => h_.1))))) (Kd.R_lt (by (with_reducible repeat (first | apply Kd.R_alloc | apply Kd.R_drewN | apply Kd.R_drew)); exact (Kd.R_mono (Kd.R_far (p := ⟨gb880, 2, none⟩) (Kd.R_far (p := ⟨gb880, 1, none⟩) (Kd.R_far (p := ⟨gb880, 0, none⟩) (Kd.R_types HO872.out BK880.out (by decide)) (fun _ hk => hk.2) (.int .i64 t873)) (fun _ hk => hk.2) (.slice Ao101 t874.length co101)) (fun _ hk => hk.2) (.slice Ao102 t877.length co102)) (fun _ h_ => h_.1))))) (Kd.R_lt (by (with_reducible repeat (first | apply Kd.R_alloc | apply Kd.R_drewN | apply Kd.R_drew)); exact (Kd.R_mono (Kd.R_far (p := ⟨gb880, 2, none⟩) (Kd.R_far (p := ⟨gb880, 1, none⟩) (Kd.R_far (p := ⟨gb880, 0, none⟩) (Kd.R_types HO876.out BK880.out (by decide)) (fun _ hk => hk.2) (.int .i64 t873)) (fun _ hk => hk.2) (.slice Ao101 t874.length co101)) (fun _ hk => hk.2) (.slice Ao102 t877.length co102)) (fun _ h_ => h_.1))))) (below_size bz)); have n6_ := Aside0.mk (blk_below (g := gb861) (o := .cells #[.int .i64 a0_0, .slice A0_1 l0_1.length c0_1, .slice A0_2 l0_2.length c0_2] 25 (0, 0)) (by (with_reducible repeat (first | refine blk_drewN ?_ _ | refine blk_drew ?_ | refine blk_alloc ?_ _)); refine blk_far ?_ NB861_880.out _; (with_reducible repeat (first | refine blk_drewN ?_ _ | refine blk_drew ?_ | refine blk_alloc ?_ _)); refine blk_far ?_ NB861_880.out _; (with_reducible repeat (first | refine blk_drewN ?_ _ | refine blk_drew ?_ | refine blk_alloc ?_ _)); refine blk_far ?_ NB861_880.out _; (with_reducible repeat (first | refine blk_drewN ?_ _ | refine blk_drew ?_ | refine blk_alloc ?_ _)); exact BK861.out) hb); have n7_ := Aside0.mk (blk_below (g := gb880) (o := .cells #[.int .i64 t873, .slice Ao101 t874.length co101, .slice Ao102 t877.length co102] 29 (0, 0)) (by (with_reducible repeat (first | refine blk_drewN ?_ _ | refine blk_drew ?_ | refine blk_alloc ?_ _)); refine blk_put (cs := #[.int .i64 t873, .slice Ao101 t874.length co101, .slice none 0 0]) ?_ 2 _ rfl; (with_reducible repeat (first | refine blk_drewN ?_ _ | refine blk_drew ?_ | refine blk_alloc ?_ _)); refine blk_put (cs := #[.int .i64 t873, .slice none 0 0, .slice none 0 0]) ?_ 1 _ rfl; (with_reducible repeat (first | refine blk_drewN ?_ _ | refine blk_drew ?_ | refine blk_alloc ?_ _)); refine blk_put (cs := #[.int .i64 0, .slice none 0 0, .slice none 0 0]) ?_ 0 _ rfl; (with_reducible repeat (first | refine blk_drewN ?_ _ | refine blk_drew ?_ | refine blk_alloc ?_ _)); exact BK880.out) hb); have n8_ := Aside0.mk (below_step bz hb); clear HO866; clear HO869; clear HO872; clear HO876; clear HO879; clear BK861; clear BK880; clear HB; have HO866 := n0_; have HO869 := n1_; have HO872 := n2_; have HO876 := n3_; have HO879 := n4_; have HO883 := n5_; have BK861 := n6_; have BK880 := n7_; have HB := n8_; clear n0_ n1_ n2_ n3_ n4_ n5_ n6_ n7_ n8_; (try clear hb); (try clear hb2); (try clear hk); (try clear hi); (try clear ho0); obtain ⟨Ao104, co104, eo104⟩ := Kd.R_slice HO883.out; subst eo104; obtain ⟨Ao105, co105, eo105⟩ := Kd.R_slice HO872.out; subst eo105) | ((with_reducible refine gate_callee (f := 20) rfl ?_); refine goesL_ (some 29) rfl rfl Try.func20 (by kernel_rfl) rfl #[.slice Ao104 t881.length co104, .slice Ao105 t870.length co105] rfl lz ?_; (with_reducible refine (laws_eqInt64S.calls k _ _ t881 _ _ t870 true _ ?side1 ?side2 ?side3 ?side4 A12.out).mono ?_); (case side1 => repeat (first | exact (Kd.R_reads' HO883.out).2.2 | (with_reducible refine Kd.C_alloc ?_ _) | (with_reducible refine Kd.C_drewN ?_ _) | (with_reducible refine Kd.C_drew ?_))); (case side2 => exact (Kd.R_reads' HO883.out).2.1); (case side3 => repeat (first | exact (Kd.R_reads' HO872.out).2.2 | (with_reducible refine Kd.C_alloc ?_ _) | (with_reducible refine Kd.C_drewN ?_ _) | (with_reducible refine Kd.C_drew ?_))); (case side4 => exact (Kd.R_reads' HO872.out).2.1); rintro e w' ⟨rfl, ⟨nd, rfl⟩⟩; refine ⟨_, rfl, ?_⟩))
       (try (rw [drewN_self w103]; generalize hq_ : World.drewN w103 _ = w103; have n0_ : Aside0 (Kd.R (Kd.int .i64) 2 w103 w.heap.size (fun k_ => (((True ∧ some k_ ≠ (.slice Ao105 t870.length co105 : Value).ownBlock) ∧ some k_ ≠ (.slice Ao101 t874.length co101 : Value).ownBlock) ∧ some k_ ≠ (.slice Ao104 t881.length co104 : Value).ownBlock)) (.slice Ao93 t864.length co93) t864) := ⟨by rw [← hq_]; exact (rz HO866.out)⟩; have n1_ : Aside0 (Kd.R k85 85 w103 w.heap.size (fun k_ => ((((some k_ ≠ (.slice Ao93 t864.length co93 : Value).ownBlock ∧ some k_ ≠ (.slice Ao105 t870.length co105 : Value).ownBlock) ∧ some k_ ≠ (.slice Ao101 t874.length co101 : Value).ownBlock) ∧ some k_ ≠ (.slice Ao102 t877.length co102 : Value).ownBlock) ∧ some k_ ≠ (.slice Ao104 t881.length co104 : Value).ownBlock)) (.slice Ao94 t867.length co94) t867) := ⟨by rw [← hq_]; exact (rz HO869.out)⟩; have n2_ : Aside0 (Kd.R (Kd.int .i64) 2 w103 w.heap.size (fun k_ => (((True ∧ some k_ ≠ (.slice Ao93 t864.length co93 : Value).ownBlock) ∧ some k_ ≠ (.slice Ao101 t874.length co101 : Value).ownBlock) ∧ some k_ ≠ (.slice Ao104 t881.length co104 : Value).ownBlock)) (.slice Ao105 t870.length co105) t870) := ⟨by rw [← hq_]; exact (rz HO872.out)⟩; have n3_ : Aside0 (Kd.R (Kd.int .i64) 2 w103 w.heap.size (fun k_ => (((True ∧ some k_ ≠ (.slice Ao93 t864.length co93 : Value).ownBlock) ∧ some k_ ≠ (.slice Ao105 t870.length co105 : Value).ownBlock) ∧ some k_ ≠ (.slice Ao104 t881.length co104 : Value).ownBlock)) (.slice Ao101 t874.length co101) t874) := ⟨by rw [← hq_]; exact (rz HO876.out)⟩; have n4_ : Aside0 (Kd.R k85 85 w103 w.heap.size (fun k_ => ((((some k_ ≠ (.slice Ao101 t874.length co101 : Value).ownBlock ∧ some k_ ≠ (.slice Ao93 t864.length co93 : Value).ownBlock) ∧ some k_ ≠ (.slice Ao94 t867.length co94 : Value).ownBlock) ∧ some k_ ≠ (.slice Ao105 t870.length co105 : Value).ownBlock) ∧ some k_ ≠ (.slice Ao104 t881.length co104 : Value).ownBlock)) (.slice Ao102 t877.length co102) t877) := ⟨by rw [← hq_]; exact (rz HO879.out)⟩; have n5_ : Aside0 (Kd.R (Kd.int .i64) 2 w103 w.heap.size (fun k_ => (((True ∧ some k_ ≠ (.slice Ao93 t864.length co93 : Value).ownBlock) ∧ some k_ ≠ (.slice Ao105 t870.length co105 : Value).ownBlock) ∧ some k_ ≠ (.slice Ao101 t874.length co101 : Value).ownBlock)) (.slice Ao104 t881.length co104) t881) := ⟨by rw [← hq_]; exact (rz HO883.out)⟩; have n6_ : Aside0 (w103.heap[gb861]? = some (.cells #[.int .i64 a0_0, .slice A0_1 l0_1.length c0_1, .slice A0_2 l0_2.length c0_2] 25 (0, 0))) := ⟨by rw [← hq_]; exact kz⟩; have n7_ : Aside0 (w103.heap[gb880]? = some (.cells #[.int .i64 t873, .slice Ao101 t874.length co101, .slice Ao102 t877.length co102] 29 (0, 0))) := ⟨by rw [← hq_]; exact kz⟩; have n8_ : Aside0 (Below w.heap.size w w103) := ⟨by rw [← hq_]; exact bz⟩; clear HO866 HO869 HO872 HO876 HO879 HO883 BK861 BK880 HB hq_; have HO866 := n0_; have HO869 := n1_; have HO872 := n2_; have HO876 := n3_; have HO879 := n4_; have HO883 := n5_; have BK861 := n6_; have BK880 := n7_; have HB := n8_; clear n0_ n1_ n2_ n3_ n4_ n5_ n6_ n7_ n8_))
       have n0_ := Aside0.mk (Kd.R_drew HO866.out)
       have n1_ := Aside0.mk (Kd.R_drew HO869.out)
       have n2_ := Aside0.mk (Kd.R_drew HO872.out)
       have n3_ := Aside0.mk (Kd.R_drew HO876.out)
       have n4_ := Aside0.mk (Kd.R_drew HO879.out)
       have n5_ := Aside0.mk (Kd.R_drew HO883.out)
       have n6_ := Aside0.mk (blk_drew BK861.out)
       have n7_ := Aside0.mk (blk_drew BK880.out)
       have n8_ := Aside0.mk (below_drew1 HB.out)
       clear HO866
       clear HO869
       clear HO872
       clear HO876
       clear HO879
       clear HO883
       clear BK861
       clear BK880
       clear HB
       have HO866 := n0_
       have HO869 := n1_
       have HO872 := n2_
       have HO876 := n3_
       have HO879 := n4_
       have HO883 := n5_
       have BK861 := n6_
       have BK880 := n7_
       have HB := n8_
       clear n0_ n1_ n2_ n3_ n4_ n5_ n6_ n7_ n8_
       refine start_ (n := 5) (S := fun w' => w'.cell? ⟨gb880, 0, none⟩ = some (.int .i64 t873) ∧ w'.cell? ⟨gb880, 1, none⟩ = some (.slice Ao101 t874.length co101) ∧ w'.cell? ⟨gb880, 2, none⟩ = some (.slice Ao102 t877.length co102) ∧ w'.cell? ⟨gb861, 0, none⟩ = some (.int .i64 a0_0) ∧ w'.cell? ⟨gb861, 1, none⟩ = some (.slice A0_1 l0_1.length c0_1) ∧ w'.cell? ⟨gb861, 2, none⟩ = some (.slice A0_2 l0_2.length c0_2)) (ds := []) #[false, false, false, false, false] (by kernel_rfl) rfl rfl ⟨(blk_cell BK880.out 0).trans rfl, (blk_cell BK880.out 1).trans rfl, (blk_cell BK880.out 2).trans rfl, (blk_cell BK861.out 0).trans rfl, (blk_cell BK861.out 1).trans rfl, (blk_cell BK861.out 2).trans rfl⟩ (fun hHeld => ?_)
       generalize w103.drew = w106 at HO866 HO869 HO872 HO876 HO879 HO883 BK861 BK880 HB hHeld ⊢
       refine take_ (i := 0) (N := some 31) (v := ?_) (a' := ?_) #[true, false, false, false, false] rfl rfl (by kernel_rfl) (fun _ _ _ h => h) (Or.inl ⟨by rfl, ?_⟩) hHeld ?_ ?_
       rotate_left
       · rintro w' ⟨s0, s1, s2, s3, s4, s5⟩
         go_simp
         with_reducible rfl
       rotate_left
       · simp only [Act.put, sx1, sx2, sx3, i64_w, i32_w]
         rfl
       refine take_ (i := 1) (N := some 32) (v := ?_) (a' := ?_) #[true, true, false, false, false] rfl rfl (by kernel_rfl) (fun _ _ _ h => h) (Or.inl ⟨by rfl, ?_⟩) hHeld ?_ ?_
       rotate_left
       · rintro w' ⟨s0, s1, s2, s3, s4, s5⟩
         go_simp
         with_reducible rfl
       rotate_left
       · simp only [Act.put, sx1, sx2, sx3, i64_w, i32_w]
         rfl
       refine one_ (i := 2) (N := some 33) #[true, true, true, false, false] rfl rfl (by kernel_rfl) (by decide) (fun K hK => ?_)
       refine goes_ Try.func13 (by kernel_rfl) rfl #[.agg #[.int .i64 a0_0, .slice A0_1 l0_1.length c0_1, .slice A0_2 l0_2.length c0_2]] (by rfl) rfl rfl lz ?_
       with_reducible refine (laws_toVFunc.calls k a0_0 _ _ l0_1 _ _ l0_2 t885 t886 t889 _ ?side1 ?side2 ?side3 ?side4 A14.out).mono ?_
       (case side1 => exact cz HR0_1.out)
       (case side2 => exact HC0_1.out)
       (case side3 => exact cz HR0_2.out)
       (case side4 => exact HC0_2.out)
       rintro e w107 ⟨v887, v890, rfl, ho0, ho1, hb⟩
       refine ⟨_, rfl, ?_⟩
       have n0_ := Aside0.mk (Kd.R_elder' (rz HO866.out) (Kd.R_base ho0) hb)
       have n1_ := Aside0.mk (Kd.R_mono (Kd.R_told (Kd.R_told (Kd.R_old (rz HO869.out) hb) (Kd.R_base ho0)) (Kd.R_base ho1)) (fun _ h_ => h_.1))
       have n2_ := Aside0.mk (Kd.R_elder' (rz HO872.out) (Kd.R_base ho0) hb)
       have n3_ := Aside0.mk (Kd.R_elder' (rz HO876.out) (Kd.R_base ho0) hb)
       have n4_ := Aside0.mk (Kd.R_mono (Kd.R_told (Kd.R_told (Kd.R_old (rz HO879.out) hb) (Kd.R_base ho0)) (Kd.R_base ho1)) (fun _ h_ => h_.1))
       have n5_ := Aside0.mk (Kd.R_elder' (rz HO883.out) (Kd.R_base ho0) hb)
       have n6_ := Aside0.mk (Kd.R_lower (Kd.R_new' (Kd.R_new' (Kd.R_new' (Kd.R_new' ho0 (Kd.R_lt (rz HO866.out))) (Kd.R_lt (rz HO872.out))) (Kd.R_lt (rz HO876.out))) (Kd.R_lt (rz HO883.out))) (below_size bz))
       have n7_ := Aside0.mk (Kd.R_lower (Kd.R_new' (Kd.R_new' (Kd.R_new' (Kd.R_new' (Kd.R_new' (Kd.R_new' ho1 (Kd.R_lt (rz HO866.out))) (Kd.R_lt (rz HO869.out))) (Kd.R_lt (rz HO872.out))) (Kd.R_lt (rz HO876.out))) (Kd.R_lt (rz HO879.out))) (Kd.R_lt (rz HO883.out))) (below_size bz))
       have n8_ := Aside0.mk (blk_below (g := gb861) (o := .cells #[.int .i64 a0_0, .slice A0_1 l0_1.length c0_1, .slice A0_2 l0_2.length c0_2] 25 (0, 0)) kz hb)
       have n9_ := Aside0.mk (blk_below (g := gb880) (o := .cells #[.int .i64 t873, .slice Ao101 t874.length co101, .slice Ao102 t877.length co102] 29 (0, 0)) kz hb)
       have n10_ := Aside0.mk (below_step bz hb)
       clear HO866
       clear HO869
       clear HO872
       clear HO876
       clear HO879
       clear HO883
       clear BK861
       clear BK880
       clear HB
       have HO866 := n0_
       have HO869 := n1_
       have HO872 := n2_
       have HO876 := n3_
       have HO879 := n4_
       have HO883 := n5_
       have HO888 := n6_
       have HO891 := n7_
       have BK861 := n8_
       have BK880 := n9_
       have HB := n10_
       clear n0_ n1_ n2_ n3_ n4_ n5_ n6_ n7_ n8_ n9_ n10_
       (try clear hb)
       (try clear hb2)
       (try clear hk)
       (try clear hi)
       (try clear ho0)
       (try clear ho1)
       obtain ⟨Ao108, co108, eo108⟩ := Kd.R_slice HO888.out
       (first | subst eo108 | (injection eo108 with f1_ f2_ f3_; have f4_ := f1_.symm; have f5_ := f3_.symm; clear f1_ f2_ f3_; subst f4_; subst f5_))
       obtain ⟨Ao109, co109, eo109⟩ := Kd.R_slice HO891.out
       (first | subst eo109 | (injection eo109 with f1_ f2_ f3_; have f4_ := f1_.symm; have f5_ := f3_.symm; clear f1_ f2_ f3_; subst f4_; subst f5_))
       refine hK.out _ _ ⟨(blk_cell BK880.out 0).trans rfl, (blk_cell BK880.out 1).trans rfl, (blk_cell BK880.out 2).trans rfl, (blk_cell BK861.out 0).trans rfl, (blk_cell BK861.out 1).trans rfl, (blk_cell BK861.out 2).trans rfl⟩ (fun hHeld => ?_)
       clear hK K
       refine norm_ (a' := ?_) ?_ ?_
       rotate_left
       · show Act.put _ (some 33) _ = _
         simp only [Act.put, sx1, sx2, sx3, i64_w, i32_w]
         rfl
       refine one_ (i := 3) (N := some 34) #[true, true, true, true, false] rfl rfl (by kernel_rfl) (by decide) (fun K hK => ?_)
       refine goes_ Try.func15 (by kernel_rfl) rfl #[.agg #[.int .i64 t873, .slice Ao101 t874.length co101, .slice Ao102 t877.length co102], .agg #[.int .i64 t885, .slice Ao108 t886.length co108, .slice Ao109 t889.length co109]] (by rfl) rfl rfl lz ?_
       with_reducible refine (laws_eqVFunc.calls k t873 _ _ t874 _ _ t877 t885 _ _ t886 _ _ t889 false _ ?side1 ?side2 ?side3 ?side4 ?side5 ?side6 ?side7 ?side8 A15.out).mono ?_
       (case side1 => repeat (first | exact (Kd.R_reads' HO876.out).2.2 | (with_reducible refine Kd.C_alloc ?_ _) | (with_reducible refine Kd.C_drewN ?_ _) | (with_reducible refine Kd.C_drew ?_)))
       (case side2 => exact (Kd.R_reads' HO876.out).2.1)
       (case side3 => repeat (first | exact (Kd.R_reads' HO879.out).2.2 | (with_reducible refine Kd.C_alloc ?_ _) | (with_reducible refine Kd.C_drewN ?_ _) | (with_reducible refine Kd.C_drew ?_)))
       (case side4 => exact (Kd.R_reads' HO879.out).2.1)
       (case side5 => repeat (first | exact (Kd.R_reads' HO888.out).2.2 | (with_reducible refine Kd.C_alloc ?_ _) | (with_reducible refine Kd.C_drewN ?_ _) | (with_reducible refine Kd.C_drew ?_)))
       (case side6 => exact (Kd.R_reads' HO888.out).2.1)
       (case side7 => repeat (first | exact (Kd.R_reads' HO891.out).2.2 | (with_reducible refine Kd.C_alloc ?_ _) | (with_reducible refine Kd.C_drewN ?_ _) | (with_reducible refine Kd.C_drew ?_)))
       (case side8 => exact (Kd.R_reads' HO891.out).2.1)
       rintro e w110 ⟨rfl, hb⟩
       refine ⟨_, rfl, ?_⟩
       have n0_ := Aside0.mk (Kd.R_below (rz HO866.out) hb)
       have n1_ := Aside0.mk (Kd.R_below (rz HO869.out) hb)
       have n2_ := Aside0.mk (Kd.R_below (rz HO872.out) hb)
       have n3_ := Aside0.mk (Kd.R_below (rz HO876.out) hb)
       have n4_ := Aside0.mk (Kd.R_below (rz HO879.out) hb)
       have n5_ := Aside0.mk (Kd.R_below (rz HO883.out) hb)
       have n6_ := Aside0.mk (Kd.R_below (rz HO888.out) hb)
       have n7_ := Aside0.mk (Kd.R_below (rz HO891.out) hb)
       have n8_ := Aside0.mk (blk_below (g := gb861) (o := .cells #[.int .i64 a0_0, .slice A0_1 l0_1.length c0_1, .slice A0_2 l0_2.length c0_2] 25 (0, 0)) kz hb)
       have n9_ := Aside0.mk (blk_below (g := gb880) (o := .cells #[.int .i64 t873, .slice Ao101 t874.length co101, .slice Ao102 t877.length co102] 29 (0, 0)) kz hb)
       have n10_ := Aside0.mk (below_step bz hb)
       clear HO866
       clear HO869
       clear HO872
       clear HO876
       clear HO879
       clear HO883
       clear HO888
       clear HO891
       clear BK861
       clear BK880
       clear HB
       have HO866 := n0_
       have HO869 := n1_
       have HO872 := n2_
       have HO876 := n3_
       have HO879 := n4_
       have HO883 := n5_
       have HO888 := n6_
       have HO891 := n7_
       have BK861 := n8_
       have BK880 := n9_
       have HB := n10_
       clear n0_ n1_ n2_ n3_ n4_ n5_ n6_ n7_ n8_ n9_ n10_
       (try clear hb)
       (try clear hb2)
       (try clear hk)
       (try clear hi)
       refine hK.out _ _ ⟨(blk_cell BK880.out 0).trans rfl, (blk_cell BK880.out 1).trans rfl, (blk_cell BK880.out 2).trans rfl, (blk_cell BK861.out 0).trans rfl, (blk_cell BK861.out 1).trans rfl, (blk_cell BK861.out 2).trans rfl⟩ (fun hHeld => ?_)
       clear hK K
       refine norm_ (a' := ?_) ?_ ?_
       rotate_left
       · show Act.put _ (some 34) _ = _
         simp only [Act.put, sx1, sx2, sx3, i64_w, i32_w]
         rfl
       refine pure_ (i := 4) (N := some 35) (v := ?_) (a' := ?_) #[true, true, true, true, true] rfl rfl (by kernel_rfl) (fun _ _ _ h => h) (Or.inl ⟨by rfl, ?_⟩) ?_ ?_
       rotate_left
       · intro w'
         go_simp
         with_reducible rfl
       rotate_left
       · simp only [Act.put, sx1, sx2, sx3, i64_w, i32_w]
         rfl
       refine done_ (by kernel_rfl) ?_
       try go_wp2
       go_ret
       exact ⟨by first | rfl | (simp [errW_none, errW_some] <;> rfl) | (simp [*, errW_none, errW_some] <;> rfl), bz⟩
   · replace c13 := Bool.eq_false_iff.mpr c13
     subst c13
     have H1 : (some false) = some r := by rw [if_neg (show ¬ (false = true) by decide)] at H; exact H
     clear H
     have H := H1
     clear H1
     obtain rfl := Option.some.inj H
     go_enter Try.func4, Try.ntmps4
     go_wp2_with (first | ((with_reducible refine gate_dst (N := 2) rfl ?_); refine box_event ?hg (N := 2) ?hd (cs := #[.int .i64 a0_0, .slice A0_1 l0_1.length c0_1, .slice A0_2 l0_2.length c0_2]) (t := 25) ?hr ?_; (case hd => rfl); (case hg => rfl); (case hr => first | (go_simp; done) | (go_simp; rfl)); intro gb861 hg w111 hbox hb; have n0_ := Aside0.mk (below_step bz hb); have n1_ := Aside0.mk (hbox); have n2_ := Aside0.mk ((by rw [hg]; exact (below_size bz) : w.heap.size ≤ gb861)); have n3_ := Aside0.mk ((by rw [hg]; exact (below_size bz) : w.heap.size ≤ gb861)); clear HB; have HB := n0_; have BK861 := n1_; have GW861 := n2_; have GE861 := n3_; clear n0_ n1_ n2_ n3_; clear hb hbox hg; have hcz112_0 : w111.cell? ⟨gb861, 0, none⟩ = some (.int .i64 a0_0) := (blk_cell BK861.out 0).trans rfl; have hcz112_1 : w111.cell? ⟨gb861, 1, none⟩ = some (.slice A0_1 l0_1.length c0_1) := (blk_cell BK861.out 1).trans rfl; have hcz112_2 : w111.cell? ⟨gb861, 2, none⟩ = some (.slice A0_2 l0_2.length c0_2) := (blk_cell BK861.out 2).trans rfl; have hfz112_0 := blk_frozen BK861.out 0; have hfz112_1 := blk_frozen BK861.out 1; have hfz112_2 := blk_frozen BK861.out 2) | ((with_reducible refine gate_callee (f := 11) rfl ?_); refine goesL_ (some 15) rfl rfl Try.func11 (by kernel_rfl) rfl #[.agg #[.int .i64 a0_0, .slice A0_1 l0_1.length c0_1, .slice A0_2 l0_2.length c0_2], .int .i64 1048576] rfl lz ?_; (with_reducible refine (laws_szVFunc.calls k a0_0 _ _ l0_1 _ _ l0_2 1048576 t862 _ ?side1 ?side2 ?side3 ?side4 A3.out).mono ?_); (case side1 => exact cz HR0_1.out); (case side2 => exact HC0_1.out); (case side3 => exact cz HR0_2.out); (case side4 => exact HC0_2.out); rintro e w113 ⟨rfl, hb⟩; refine ⟨_, rfl, ?_⟩; have n0_ := Aside0.mk (blk_below (g := gb861) (o := .cells #[.int .i64 a0_0, .slice A0_1 l0_1.length c0_1, .slice A0_2 l0_2.length c0_2] 25 (0, 0)) kz hb); have n1_ := Aside0.mk (below_step bz hb); clear BK861; clear HB; have BK861 := n0_; have HB := n1_; clear n0_ n1_; (try clear hb); (try clear hb2); (try clear hk); (try clear hi); have hcz114_0 : w113.cell? ⟨gb861, 0, none⟩ = some (.int .i64 a0_0) := (blk_cell BK861.out 0).trans rfl; have hcz114_1 : w113.cell? ⟨gb861, 1, none⟩ = some (.slice A0_1 l0_1.length c0_1) := (blk_cell BK861.out 1).trans rfl; have hcz114_2 : w113.cell? ⟨gb861, 2, none⟩ = some (.slice A0_2 l0_2.length c0_2) := (blk_cell BK861.out 2).trans rfl; have hfz114_0 := blk_frozen BK861.out 0; have hfz114_1 := blk_frozen BK861.out 1; have hfz114_2 := blk_frozen BK861.out 2) | ((with_reducible refine gate_callee (f := 13) rfl ?_); refine goesL_ (some 19) rfl rfl Try.func13 (by kernel_rfl) rfl #[.agg #[.int .i64 a0_0, .slice A0_1 l0_1.length c0_1, .slice A0_2 l0_2.length c0_2]] rfl lz ?_; (with_reducible refine (laws_toVFunc.calls k a0_0 _ _ l0_1 _ _ l0_2 t863 t864 t867 _ ?side1 ?side2 ?side3 ?side4 A8.out).mono ?_); (case side1 => exact cz HR0_1.out); (case side2 => exact HC0_1.out); (case side3 => exact cz HR0_2.out); (case side4 => exact HC0_2.out); rintro e w115 ⟨v865, v868, rfl, ho0, ho1, hb⟩; refine ⟨_, rfl, ?_⟩; have n0_ := Aside0.mk (Kd.R_lower ho0 (below_size bz)); have n1_ := Aside0.mk (Kd.R_lower ho1 (below_size bz)); have n2_ := Aside0.mk (blk_below (g := gb861) (o := .cells #[.int .i64 a0_0, .slice A0_1 l0_1.length c0_1, .slice A0_2 l0_2.length c0_2] 25 (0, 0)) kz hb); have n3_ := Aside0.mk (below_step bz hb); clear BK861; clear HB; have HO866 := n0_; have HO869 := n1_; have BK861 := n2_; have HB := n3_; clear n0_ n1_ n2_ n3_; (try clear hb); (try clear hb2); (try clear hk); (try clear hi); (try clear ho0); (try clear ho1); obtain ⟨Ao116, co116, eo116⟩ := Kd.R_slice HO866.out; subst eo116; obtain ⟨Ao117, co117, eo117⟩ := Kd.R_slice HO869.out; subst eo117) | ((with_reducible refine gate_callee (f := 18) rfl ?_); refine goesL_ (some 21) rfl rfl Try.func18 (by kernel_rfl) rfl #[.agg #[.int .i64 t863, .slice Ao116 t864.length co116, .slice Ao117 t867.length co117], .int .i64 a1] rfl lz ?_; (with_reducible refine (spec_LiveRegs.calls k t863 _ _ t864 _ _ t867 a1 t870 _ ?side1 ?side2 ?side3 ?side4 A9.out).mono ?_); (case side1 => repeat (first | exact (Kd.R_reads' HO866.out).2.2 | (with_reducible refine Kd.C_alloc ?_ _) | (with_reducible refine Kd.C_drewN ?_ _) | (with_reducible refine Kd.C_drew ?_))); (case side2 => exact (Kd.R_reads' HO866.out).2.1); (case side3 => repeat (first | exact (Kd.R_reads' HO869.out).2.2 | (with_reducible refine Kd.C_alloc ?_ _) | (with_reducible refine Kd.C_drewN ?_ _) | (with_reducible refine Kd.C_drew ?_))); (case side4 => exact (Kd.R_reads' HO869.out).2.1); rintro e w118 ⟨v871, rfl, ho0, hb⟩; refine ⟨_, rfl, ?_⟩; have n0_ := Aside0.mk (Kd.R_elder' (rz HO866.out) (Kd.R_base ho0) hb); have n1_ := Aside0.mk (Kd.R_elder' (rz HO869.out) (Kd.R_base ho0) hb); have n2_ := Aside0.mk (Kd.R_lower (Kd.R_new' ho0 (Kd.R_lt (rz HO866.out))) (below_size bz)); have n3_ := Aside0.mk (blk_below (g := gb861) (o := .cells #[.int .i64 a0_0, .slice A0_1 l0_1.length c0_1, .slice A0_2 l0_2.length c0_2] 25 (0, 0)) kz hb); have n4_ := Aside0.mk (below_step bz hb); clear HO866; clear HO869; clear BK861; clear HB; have HO866 := n0_; have HO869 := n1_; have HO872 := n2_; have BK861 := n3_; have HB := n4_; clear n0_ n1_ n2_ n3_ n4_; (try clear hb); (try clear hb2); (try clear hk); (try clear hi); (try clear ho0); have hcz119_0 : w118.cell? ⟨gb861, 0, none⟩ = some (.int .i64 a0_0) := (blk_cell BK861.out 0).trans rfl; have hcz119_1 : w118.cell? ⟨gb861, 1, none⟩ = some (.slice A0_1 l0_1.length c0_1) := (blk_cell BK861.out 1).trans rfl; have hcz119_2 : w118.cell? ⟨gb861, 2, none⟩ = some (.slice A0_2 l0_2.length c0_2) := (blk_cell BK861.out 2).trans rfl; have hfz119_0 := blk_frozen BK861.out 0; have hfz119_1 := blk_frozen BK861.out 1; have hfz119_2 := blk_frozen BK861.out 2) | ((with_reducible refine gate_callee (f := 13) rfl ?_); refine goesL_ (some 23) rfl rfl Try.func13 (by kernel_rfl) rfl #[.agg #[.int .i64 a0_0, .slice A0_1 l0_1.length c0_1, .slice A0_2 l0_2.length c0_2]] rfl lz ?_; (with_reducible refine (laws_toVFunc.calls k a0_0 _ _ l0_1 _ _ l0_2 t873 t874 t877 _ ?side1 ?side2 ?side3 ?side4 A10.out).mono ?_); (case side1 => exact cz HR0_1.out); (case side2 => exact HC0_1.out); (case side3 => exact cz HR0_2.out); (case side4 => exact HC0_2.out); rintro e w120 ⟨v875, v878, rfl, ho0, ho1, hb⟩; refine ⟨_, rfl, ?_⟩; have n0_ := Aside0.mk (Kd.R_elder' (rz HO866.out) (Kd.R_base ho0) hb); have n1_ := Aside0.mk (Kd.R_mono (Kd.R_told (Kd.R_told (Kd.R_old (rz HO869.out) hb) (Kd.R_base ho0)) (Kd.R_base ho1)) (fun _ h_ => h_.1)); have n2_ := Aside0.mk (Kd.R_elder' (rz HO872.out) (Kd.R_base ho0) hb); have n3_ := Aside0.mk (Kd.R_lower (Kd.R_new' (Kd.R_new' ho0 (Kd.R_lt (rz HO866.out))) (Kd.R_lt (rz HO872.out))) (below_size bz)); have n4_ := Aside0.mk (Kd.R_lower (Kd.R_new' (Kd.R_new' (Kd.R_new' ho1 (Kd.R_lt (rz HO866.out))) (Kd.R_lt (rz HO869.out))) (Kd.R_lt (rz HO872.out))) (below_size bz)); have n5_ := Aside0.mk (blk_below (g := gb861) (o := .cells #[.int .i64 a0_0, .slice A0_1 l0_1.length c0_1, .slice A0_2 l0_2.length c0_2] 25 (0, 0)) kz hb); have n6_ := Aside0.mk (below_step bz hb); clear HO866; clear HO869; clear HO872; clear BK861; clear HB; have HO866 := n0_; have HO869 := n1_; have HO872 := n2_; have HO876 := n3_; have HO879 := n4_; have BK861 := n5_; have HB := n6_; clear n0_ n1_ n2_ n3_ n4_ n5_ n6_; (try clear hb); (try clear hb2); (try clear hk); (try clear hi); (try clear ho0); (try clear ho1)) | ((with_reducible refine gate_dst (N := 7) rfl ?_); refine box_event ?hg (N := 7) ?hd (cs := #[.int .i64 0, .slice none 0 0, .slice none 0 0]) (t := 29) ?hr ?_; (case hd => rfl); (case hg => rfl); (case hr => first | (go_simp; done) | (go_simp; rfl)); intro gb880 hg w121 hbox hb; have n0_ := Aside0.mk (Kd.R_below (rz HO866.out) hb); have n1_ := Aside0.mk (Kd.R_below (rz HO869.out) hb); have n2_ := Aside0.mk (Kd.R_below (rz HO872.out) hb); have n3_ := Aside0.mk (Kd.R_below (rz HO876.out) hb); have n4_ := Aside0.mk (Kd.R_below (rz HO879.out) hb); have n5_ := Aside0.mk (blk_below (g := gb861) (o := .cells #[.int .i64 a0_0, .slice A0_1 l0_1.length c0_1, .slice A0_2 l0_2.length c0_2] 25 (0, 0)) kz hb); have n6_ := Aside0.mk (below_step bz hb); have n7_ := Aside0.mk (hbox); have n8_ := Aside0.mk ((by rw [hg]; exact (below_size bz) : w.heap.size ≤ gb880)); have n9_ := Aside0.mk ((by rw [hg]; exact (below_size bz) : w.heap.size ≤ gb880)); have n10_ := Aside0.mk ((by rw [hg]; exact Nat.ne_of_lt (blk_lt (g := gb861) (o := .cells #[.int .i64 a0_0, .slice A0_1 l0_1.length c0_1, .slice A0_2 l0_2.length c0_2] 25 (0, 0)) kz) : gb861 ≠ gb880)); have n11_ := Aside0.mk ((by rw [hg]; exact Nat.ne_of_gt (blk_lt (g := gb861) (o := .cells #[.int .i64 a0_0, .slice A0_1 l0_1.length c0_1, .slice A0_2 l0_2.length c0_2] 25 (0, 0)) kz) : gb880 ≠ gb861)); clear HO866; clear HO869; clear HO872; clear HO876; clear HO879; clear BK861; clear HB; have HO866 := n0_; have HO869 := n1_; have HO872 := n2_; have HO876 := n3_; have HO879 := n4_; have BK861 := n5_; have HB := n6_; have BK880 := n7_; have GW880 := n8_; have GE880 := n9_; have NB861_880 := n10_; have NB880_861 := n11_; clear n0_ n1_ n2_ n3_ n4_ n5_ n6_ n7_ n8_ n9_ n10_ n11_; clear hb hbox hg; have hnb122 := NB880_861.out; have hnc122 := NB861_880.out; have hcz123_0 : w121.cell? ⟨gb880, 0, none⟩ = some (.int .i64 0) := (blk_cell BK880.out 0).trans rfl; have hcz123_1 : w121.cell? ⟨gb880, 1, none⟩ = some (.slice none 0 0) := (blk_cell BK880.out 1).trans rfl; have hcz123_2 : w121.cell? ⟨gb880, 2, none⟩ = some (.slice none 0 0) := (blk_cell BK880.out 2).trans rfl; have hfz123_0 := blk_frozen BK880.out 0; have hfz123_1 := blk_frozen BK880.out 1; have hfz123_2 := blk_frozen BK880.out 2; obtain ⟨Ao124, co124, eo124⟩ := Kd.R_slice HO876.out; subst eo124; obtain ⟨Ao125, co125, eo125⟩ := Kd.R_slice HO879.out; subst eo125) | ((with_reducible refine gate_callee (f := 19) rfl ?_); refine goesL_ (some 26) rfl rfl Try.func19 (by kernel_rfl) rfl #[.agg #[.int .i64 t873, .slice Ao124 t874.length co124, .slice Ao125 t877.length co125], .int .i64 a1] rfl lz ?_; (with_reducible refine (impl_LiveRegs.calls k t873 _ _ t874 _ _ t877 a1 t881 _ ?side1 ?side2 ?side3 ?side4 A11.out).mono ?_); (case side1 => refine (Kd.R_reads' (e := 2) (base := w.heap.size) (ok := fun k_ => ((True ∧ some k_ ≠ (.slice Ao116 t864.length co116 : Value).ownBlock) ∧ some k_ ≠ (v871 : Value).ownBlock)) (n := t874.length) (c := co124) ?_).2.2; exact (by (with_reducible repeat (first | apply Kd.R_alloc | apply Kd.R_drewN | apply Kd.R_drew)); exact (Kd.R_mono (Kd.R_far (p := ⟨gb880, 2, none⟩) (Kd.R_far (p := ⟨gb880, 1, none⟩) (Kd.R_far (p := ⟨gb880, 0, none⟩) (Kd.R_types HO876.out BK880.out (by decide)) (fun _ hk => hk.2) (.int .i64 t873)) (fun _ hk => hk.2) (.slice Ao124 t874.length co124)) (fun _ hk => hk.2) (.slice Ao125 t877.length co125)) (fun _ h_ => h_.1)))); (case side2 => exact (Kd.R_reads' HO876.out).2.1); (case side3 => refine (Kd.R_reads' (e := 85) (base := w.heap.size) (ok := fun k_ => (((some k_ ≠ (.slice Ao124 t874.length co124 : Value).ownBlock ∧ some k_ ≠ (.slice Ao116 t864.length co116 : Value).ownBlock) ∧ some k_ ≠ (.slice Ao117 t867.length co117 : Value).ownBlock) ∧ some k_ ≠ (v871 : Value).ownBlock)) (n := t877.length) (c := co125) ?_).2.2; exact (by (with_reducible repeat (first | apply Kd.R_alloc | apply Kd.R_drewN | apply Kd.R_drew)); exact (Kd.R_mono (Kd.R_far (p := ⟨gb880, 2, none⟩) (Kd.R_far (p := ⟨gb880, 1, none⟩) (Kd.R_far (p := ⟨gb880, 0, none⟩) (Kd.R_types HO879.out BK880.out (by decide)) (fun _ hk => hk.2) (.int .i64 t873)) (fun _ hk => hk.2) (.slice Ao124 t874.length co124)) (fun _ hk => hk.2) (.slice Ao125 t877.length co125)) (fun _ h_ => h_.1)))); (case side4 => exact (Kd.R_reads' HO879.out).2.1); rintro e w126 ⟨v882, rfl, ho0, hb⟩; refine ⟨_, rfl, ?_⟩; have n0_ := Aside0.mk (Kd.R_elder' (by (with_reducible repeat (first | apply Kd.R_alloc | apply Kd.R_drewN | apply Kd.R_drew)); exact (Kd.R_mono (Kd.R_far (p := ⟨gb880, 2, none⟩) (Kd.R_far (p := ⟨gb880, 1, none⟩) (Kd.R_far (p := ⟨gb880, 0, none⟩) (Kd.R_types HO866.out BK880.out (by decide)) (fun _ hk => hk.2) (.int .i64 t873)) (fun _ hk => hk.2) (.slice Ao124 t874.length co124)) (fun _ hk => hk.2) (.slice Ao125 t877.length co125)) (fun _ h_ => h_.1))) (Kd.R_base ho0) hb); have n1_ := Aside0.mk (Kd.R_elder' (by (with_reducible repeat (first | apply Kd.R_alloc | apply Kd.R_drewN | apply Kd.R_drew)); exact (Kd.R_mono (Kd.R_far (p := ⟨gb880, 2, none⟩) (Kd.R_far (p := ⟨gb880, 1, none⟩) (Kd.R_far (p := ⟨gb880, 0, none⟩) (Kd.R_types HO869.out BK880.out (by decide)) (fun _ hk => hk.2) (.int .i64 t873)) (fun _ hk => hk.2) (.slice Ao124 t874.length co124)) (fun _ hk => hk.2) (.slice Ao125 t877.length co125)) (fun _ h_ => h_.1))) (Kd.R_base ho0) hb); have n2_ := Aside0.mk (Kd.R_elder' (by (with_reducible repeat (first | apply Kd.R_alloc | apply Kd.R_drewN | apply Kd.R_drew)); exact (Kd.R_mono (Kd.R_far (p := ⟨gb880, 2, none⟩) (Kd.R_far (p := ⟨gb880, 1, none⟩) (Kd.R_far (p := ⟨gb880, 0, none⟩) (Kd.R_types HO872.out BK880.out (by decide)) (fun _ hk => hk.2) (.int .i64 t873)) (fun _ hk => hk.2) (.slice Ao124 t874.length co124)) (fun _ hk => hk.2) (.slice Ao125 t877.length co125)) (fun _ h_ => h_.1))) (Kd.R_base ho0) hb); have n3_ := Aside0.mk (Kd.R_elder' (by (with_reducible repeat (first | apply Kd.R_alloc | apply Kd.R_drewN | apply Kd.R_drew)); exact (Kd.R_mono (Kd.R_far (p := ⟨gb880, 2, none⟩) (Kd.R_far (p := ⟨gb880, 1, none⟩) (Kd.R_far (p := ⟨gb880, 0, none⟩) (Kd.R_types HO876.out BK880.out (by decide)) (fun _ hk => hk.2) (.int .i64 t873)) (fun _ hk => hk.2) (.slice Ao124 t874.length co124)) (fun _ hk => hk.2) (.slice Ao125 t877.length co125)) (fun _ h_ => h_.1))) (Kd.R_base ho0) hb); have n4_ := Aside0.mk (Kd.R_elder' (by (with_reducible repeat (first | apply Kd.R_alloc | apply Kd.R_drewN | apply Kd.R_drew)); exact (Kd.R_mono (Kd.R_far (p := ⟨gb880, 2, none⟩) (Kd.R_far (p := ⟨gb880, 1, none⟩) (Kd.R_far (p := ⟨gb880, 0, none⟩) (Kd.R_types HO879.out BK880.out (by decide)) (fun _ hk => hk.2) (.int .i64 t873)) (fun _ hk => hk.2) (.slice Ao124 t874.length co124)) (fun _ hk => hk.2) (.slice Ao125 t877.length co125)) (fun _ h_ => h_.1))) (Kd.R_base ho0) hb); have n5_ := Aside0.mk (Kd.R_lower (Kd.R_new' (Kd.R_new' (Kd.R_new' ho0 (Kd.R_lt (by (with_reducible repeat (first | apply Kd.R_alloc | apply Kd.R_drewN | apply Kd.R_drew)); exact (Kd.R_mono (Kd.R_far (p := ⟨gb880, 2, none⟩) (Kd.R_far (p := ⟨gb880, 1, none⟩) (Kd.R_far (p := ⟨gb880, 0, none⟩) (Kd.R_types HO866.out BK880.out (by decide)) (fun _ hk => hk.2) (.int .i64 t873)) (fun _ hk => hk.2) (.slice Ao124 t874.length co124)) (fun _ hk => hk.2) (.slice Ao125 t877.length co125)) (fun _ h_ => h_.1))))) (Kd.R_lt (by (with_reducible repeat (first | apply Kd.R_alloc | apply Kd.R_drewN | apply Kd.R_drew)); exact (Kd.R_mono (Kd.R_far (p := ⟨gb880, 2, none⟩) (Kd.R_far (p := ⟨gb880, 1, none⟩) (Kd.R_far (p := ⟨gb880, 0, none⟩) (Kd.R_types HO872.out BK880.out (by decide)) (fun _ hk => hk.2) (.int .i64 t873)) (fun _ hk => hk.2) (.slice Ao124 t874.length co124)) (fun _ hk => hk.2) (.slice Ao125 t877.length co125)) (fun _ h_ => h_.1))))) (Kd.R_lt (by (with_reducible repeat (first | apply Kd.R_alloc | apply Kd.R_drewN | apply Kd.R_drew)); exact (Kd.R_mono (Kd.R_far (p := ⟨gb880, 2, none⟩) (Kd.R_far (p := ⟨gb880, 1, none⟩) (Kd.R_far (p := ⟨gb880, 0, none⟩) (Kd.R_types HO876.out BK880.out (by decide)) (fun _ hk => hk.2) (.int .i64 t873)) (fun _ hk => hk.2) (.slice Ao124 t874.length co124)) (fun _ hk => hk.2) (.slice Ao125 t877.length co125)) (fun _ h_ => h_.1))))) (below_size bz)); have n6_ := Aside0.mk (blk_below (g := gb861) (o := .cells #[.int .i64 a0_0, .slice A0_1 l0_1.length c0_1, .slice A0_2 l0_2.length c0_2] 25 (0, 0)) (by (with_reducible repeat (first | refine blk_drewN ?_ _ | refine blk_drew ?_ | refine blk_alloc ?_ _)); refine blk_far ?_ NB861_880.out _; (with_reducible repeat (first | refine blk_drewN ?_ _ | refine blk_drew ?_ | refine blk_alloc ?_ _)); refine blk_far ?_ NB861_880.out _; (with_reducible repeat (first | refine blk_drewN ?_ _ | refine blk_drew ?_ | refine blk_alloc ?_ _)); refine blk_far ?_ NB861_880.out _; (with_reducible repeat (first | refine blk_drewN ?_ _ | refine blk_drew ?_ | refine blk_alloc ?_ _)); exact BK861.out) hb); have n7_ := Aside0.mk (blk_below (g := gb880) (o := .cells #[.int .i64 t873, .slice Ao124 t874.length co124, .slice Ao125 t877.length co125] 29 (0, 0)) (by (with_reducible repeat (first | refine blk_drewN ?_ _ | refine blk_drew ?_ | refine blk_alloc ?_ _)); refine blk_put (cs := #[.int .i64 t873, .slice Ao124 t874.length co124, .slice none 0 0]) ?_ 2 _ rfl; (with_reducible repeat (first | refine blk_drewN ?_ _ | refine blk_drew ?_ | refine blk_alloc ?_ _)); refine blk_put (cs := #[.int .i64 t873, .slice none 0 0, .slice none 0 0]) ?_ 1 _ rfl; (with_reducible repeat (first | refine blk_drewN ?_ _ | refine blk_drew ?_ | refine blk_alloc ?_ _)); refine blk_put (cs := #[.int .i64 0, .slice none 0 0, .slice none 0 0]) ?_ 0 _ rfl; (with_reducible repeat (first | refine blk_drewN ?_ _ | refine blk_drew ?_ | refine blk_alloc ?_ _)); exact BK880.out) hb); have n8_ := Aside0.mk (below_step bz hb); clear HO866; clear HO869; clear HO872; clear HO876; clear HO879; clear BK861; clear BK880; clear HB; have HO866 := n0_; have HO869 := n1_; have HO872 := n2_; have HO876 := n3_; have HO879 := n4_; have HO883 := n5_; have BK861 := n6_; have BK880 := n7_; have HB := n8_; clear n0_ n1_ n2_ n3_ n4_ n5_ n6_ n7_ n8_; (try clear hb); (try clear hb2); (try clear hk); (try clear hi); (try clear ho0); obtain ⟨Ao127, co127, eo127⟩ := Kd.R_slice HO883.out; subst eo127; obtain ⟨Ao128, co128, eo128⟩ := Kd.R_slice HO872.out; subst eo128) | ((with_reducible refine gate_callee (f := 20) rfl ?_); refine goesL_ (some 29) rfl rfl Try.func20 (by kernel_rfl) rfl #[.slice Ao127 t881.length co127, .slice Ao128 t870.length co128] rfl lz ?_; (with_reducible refine (laws_eqInt64S.calls k _ _ t881 _ _ t870 false _ ?side1 ?side2 ?side3 ?side4 A12.out).mono ?_); (case side1 => repeat (first | exact (Kd.R_reads' HO883.out).2.2 | (with_reducible refine Kd.C_alloc ?_ _) | (with_reducible refine Kd.C_drewN ?_ _) | (with_reducible refine Kd.C_drew ?_))); (case side2 => exact (Kd.R_reads' HO883.out).2.1); (case side3 => repeat (first | exact (Kd.R_reads' HO872.out).2.2 | (with_reducible refine Kd.C_alloc ?_ _) | (with_reducible refine Kd.C_drewN ?_ _) | (with_reducible refine Kd.C_drew ?_))); (case side4 => exact (Kd.R_reads' HO872.out).2.1); rintro e w' ⟨rfl, ⟨nd, rfl⟩⟩; refine ⟨_, rfl, ?_⟩))
     go_ret
     exact ⟨by first | rfl | (simp [errW_none, errW_some] <;> rfl) | (simp [*, errW_none, errW_some] <;> rfl), bz⟩

end Go.Proofs.Ythegbhfoleiegaa.All

/- What reads as data of a type can be read as a value of its kind. -/
namespace Go.Proofs.Ythegbhfoleiegaa.All
open Go.RowKit Go.Proofs.YthegbhfoleiegaaW.PrintWords Go.Proofs.YthegbhfoleiegaaW.PrintLast Go.Proofs.YthegbhfoleiegaaW.PrintMore
set_option linter.unusedVariables false
set_option linter.unusedSimpArgs false
structure Rdb {α : Type} (d : Kd α) (P : Program) (t : TypeId) (ok : α → Prop) : Prop where
  sz : P.cellsOf t = d.sz
  rd : ∀ {H : Type} {enc : TypeId × Value → H} {w : World} {base : Nat} {sp : Nat → Bool} {held : Bool} {fuel : Nat} {cs : List Value} {x : DataW H × List MemPlace}, DataW.trod enc P w base sp held fuel t cs = some x → ∃ a, d.K w a cs ∧ ok a
theorem Rdb.int {P : Program} {t : TypeId} {k : IntKind} (ht : P.underlying t = some (.int k)) (hs : P.cellsOf t = 1) : Rdb (Kd.int k) P t (fun a => (Lit.int k a).wf = true) :=
  ⟨hs, fun h => by obtain ⟨n, rfl, _, hw⟩ := DataW.trod_int ht h; exact ⟨n, rfl, hw⟩⟩
theorem Rdb.bool {P : Program} {t : TypeId} (ht : P.underlying t = some .bool) (hs : P.cellsOf t = 1) : Rdb Kd.bool P t (fun _ => True) :=
  ⟨hs, fun h => by obtain ⟨b, rfl, _⟩ := DataW.trod_bool ht h; exact ⟨b, rfl, trivial⟩⟩
theorem Rdb.string {P : Program} {t : TypeId} (ht : P.underlying t = some .string) (hs : P.cellsOf t = 1) : Rdb Kd.string P t (fun s => s.size ≤ 9223372036854775807) :=
  ⟨hs, fun h => by obtain ⟨s, rfl, _, hm⟩ := DataW.trod_string ht h; exact ⟨s, rfl, hm⟩⟩
theorem rdb_list {α : Type} {P : Nat → α → Prop} : ∀ n : Nat, (∀ j, j < n → ∃ x, P j x) → ∃ l : List α, l.length = n ∧ ∀ (j : Nat) (x : α), l[j]? = some x → P j x
  | 0, _ => ⟨[], rfl, fun j x h => by simp at h⟩
  | n + 1, h => by
    obtain ⟨l, hl, hp⟩ := rdb_list n (fun j hj => h j (by omega))
    obtain ⟨x, hx⟩ := h n (by omega)
    refine ⟨l ++ [x], by simp [hl], fun j y hy => ?_⟩
    by_cases hj : j < n
    · rw [List.getElem?_append_left (by omega)] at hy
      exact hp j y hy
    · have hlt := (List.getElem?_eq_some_iff.1 hy).1
      simp [hl] at hlt
      have : j = n := by omega
      subst this
      rw [List.getElem?_append_right (by omega)] at hy
      simp [hl] at hy
      subst hy
      exact hx
theorem Rdb.slice {α : Type} {d : Kd α} {P : Program} {t e : TypeId} {ok : α → Prop} (ht : P.underlying t = some (.slice e)) (hs : P.cellsOf t = 1) (h : Rdb d P e ok) : Rdb (Kd.slice e d) P t (fun xs => xs.length ≤ 9223372036854775807 ∧ ∀ x ∈ xs, ok x) := by
  refine ⟨hs, fun {H enc w base sp held fuel cs x} hx => ?_⟩
  rcases Deep.open_slice ht hx with ⟨rfl, _⟩ | ⟨a, len, cap, m, n, D, Pl, rfl, hb, hl, hm, hmm, _, hel⟩
  · exact ⟨[], ⟨none, 0, rfl, Nat.le_refl _, rfl, by simp, fun h0 => by simp at h0⟩, by simp, fun x hx => by simp at hx⟩
  · have hmax : len ≤ 9223372036854775807 := Nat.le_trans hl hm
    have hlm : len ≤ m := by rw [hmm]; split <;> omega
    obtain ⟨xs, hlen, hxs⟩ := rdb_list (P := fun j (x : α) => ok x ∧ ∃ c, c.length = d.sz ∧ d.K w x c ∧ ∀ (i : Nat) (u : Value), c[i]? = some u → w.cell? (a.add (j * d.sz + i)) = some u) len (fun j hj => by
      obtain ⟨cs', hc, htr⟩ := hel j (by omega)
      obtain ⟨x, hK, hok⟩ := h.rd htr
      obtain ⟨_, hcl, hcc⟩ := World.cells?_some hc
      rw [h.sz] at hcl hcc
      refine ⟨x, hok, cs', hcl, hK, fun i u hu => ?_⟩
      have hi := (List.getElem?_eq_some_iff.1 hu).1
      have := hcc i (by omega)
      rw [Addr.add_add] at this
      exact this.trans hu)
    refine ⟨xs, ⟨some a, cap, by rw [hlen], by omega, rfl, by omega, fun _ => ⟨a, rfl, fun j p hj => (hxs j p hj).2⟩⟩, by omega, fun x hx => ?_⟩
    obtain ⟨j, hj⟩ := List.getElem?_of_mem hx
    exact (hxs j x hj).1
/-- The fields of a struct (types and places) from cell 'off' on. -/
structure RdbFs {α : Type} (d : Kd α) (P : Program) (fs : List (TypeId × Nat)) (off : Nat) (ok : α → Prop) : Prop where
  rd : ∀ {H : Type} {enc : TypeId × Value → H} {w : World} {base : Nat} {sp : Nat → Bool} {held : Bool} {n : Nat} {cs : List Value}, cs.length = off + d.sz →
    (∀ f ∈ fs, ∃ x, DataW.trod enc P w base sp held n f.1 ((cs.drop f.2).take (P.cellsOf f.1)) = some x) → ∃ a, d.K w a (cs.drop off) ∧ ok a
theorem RdbFs.one {α : Type} {d : Kd α} {P : Program} {t : TypeId} {off : Nat} {ok : α → Prop} (h : Rdb d P t ok) : RdbFs d P [(t, off)] off ok := by
  refine ⟨fun {H enc w base sp held n cs} hl hf => ?_⟩
  obtain ⟨x, hx⟩ := hf (t, off) (by simp)
  simp only at hx
  rw [h.sz, List.take_of_length_le (by rw [List.length_drop]; omega)] at hx
  exact h.rd hx
theorem RdbFs.cons {α β : Type} {a : Kd α} {b : Kd β} {P : Program} {t : TypeId} {fs : List (TypeId × Nat)} {off off' : Nat} {ok : α → Prop} {ok' : β → Prop} (ho : off + a.sz = off') (h : Rdb a P t ok) (hs : RdbFs b P fs off' ok') : RdbFs (Kd.pair a b) P ((t, off) :: fs) off (fun x => ok x.1 ∧ ok' x.2) := by
  subst ho
  refine ⟨fun {H enc w base sp held n cs} hl hf => ?_⟩
  have hl' : cs.length = off + a.sz + b.sz := by rw [hl]; show off + (a.sz + b.sz) = _; omega
  obtain ⟨x, hx⟩ := hf (t, off) (by simp)
  simp only at hx
  rw [h.sz] at hx
  obtain ⟨y, hy, oky⟩ := h.rd hx
  obtain ⟨z, hz, okz⟩ := hs.rd hl' (fun g hg => hf g (by simp [hg]))
  refine ⟨(y, z), ⟨(cs.drop off).take a.sz, cs.drop (off + a.sz), ?_, hy, hz⟩, oky, okz⟩
  rw [← List.drop_drop, List.take_append_drop]
theorem Rdb.struct {α : Type} {d : Kd α} {P : Program} {t : TypeId} {fs : Array Field} {ok : α → Prop} (ht : P.underlying t = some (.struct fs)) (hs : P.cellsOf t = d.sz) (tos : List (TypeId × Nat)) (htos : fs.toList.map (fun f => (f.type, f.offset)) = tos) (h : RdbFs d P tos 0 ok) : Rdb d P t ok := by
  subst htos
  refine ⟨hs, fun hx => ?_⟩
  obtain ⟨xs, n, rfl, rfl, hl, hxl, hf⟩ := DataW.trod_struct ht hx
  have := h.rd (n := n) (by rw [hl, hs, Nat.zero_add]) (fun f hfm => by
    obtain ⟨f', hf', rfl⟩ := List.mem_map.1 hfm
    obtain ⟨i, hi⟩ := List.getElem?_of_mem hf'
    rw [Array.getElem?_toList] at hi
    have h1 := hf i f' hi
    have hlt : i < xs.length := by rw [hxl]; exact (Array.getElem?_eq_some_iff.1 hi).1
    exact ⟨xs[i], by rw [h1, List.getElem?_eq_getElem hlt]⟩)
  simpa using this
theorem Rdb.iso {α β : Type} {d : Kd α} {P : Program} {t : TypeId} {ok : α → Prop} {f : β → α} (h : Rdb d P t ok) (g : α → β) (hg : ∀ y, f (g y) = y) : Rdb (Kd.iso d f) P t (fun x => ok (f x)) :=
  ⟨h.sz, fun hx => by
    obtain ⟨a, hK, hok⟩ := h.rd hx
    refine ⟨g a, ?_, by rw [hg]; exact hok⟩
    show d.K _ (f (g a)) _
    rw [hg]
    exact hK⟩
theorem Rdb.imp {α : Type} {d : Kd α} {P : Program} {t : TypeId} {ok ok' : α → Prop} (h : Rdb d P t ok) (hi : ∀ a, ok a → ok' a) : Rdb d P t ok' :=
  ⟨h.sz, fun hx => by obtain ⟨a, hK, hok⟩ := h.rd hx; exact ⟨a, hK, hi a hok⟩⟩
end Go.Proofs.Ythegbhfoleiegaa.All

/- How the laws' arguments read. Printed by gen_row.py. -/
namespace Go.Proofs.Ythegbhfoleiegaa.All
open Go.RowKit Go.Proofs.YthegbhfoleiegaaW.PrintWords
set_option linter.unusedVariables false
def ok224 (x : S224) : Prop := (Lit.int .i64 x.f0).wf = true ∧ (Lit.int .i64 x.f1).wf = true ∧ (Lit.int .i64 x.f2).wf = true ∧ (Lit.int .i64 x.f3).wf = true ∧ (Lit.int .i64 x.f4).wf = true ∧ (Lit.int .i64 x.f5).wf = true ∧ x.f6.size ≤ 9223372036854775807 ∧ (x.f7.length ≤ 9223372036854775807 ∧ ∀ y ∈ x.f7, (Lit.int .i64 y).wf = true)
set_option maxRecDepth 100000 in
theorem rdb224 : Rdb k224 Try.prog 224 ok224 := Rdb.iso (f := fun x : S224 => (x.f0, x.f1, x.f2, x.f3, x.f4, x.f5, x.f6, x.f7)) (Rdb.struct Try.underlying224 (by kernel_rfl) [(2, 0), (2, 1), (2, 2), (2, 3), (2, 4), (2, 5), (9, 6), (22, 7)] rfl (RdbFs.cons rfl (Rdb.int Try.underlying2 (by kernel_rfl)) (RdbFs.cons rfl (Rdb.int Try.underlying2 (by kernel_rfl)) (RdbFs.cons rfl (Rdb.int Try.underlying2 (by kernel_rfl)) (RdbFs.cons rfl (Rdb.int Try.underlying2 (by kernel_rfl)) (RdbFs.cons rfl (Rdb.int Try.underlying2 (by kernel_rfl)) (RdbFs.cons rfl (Rdb.int Try.underlying2 (by kernel_rfl)) (RdbFs.cons rfl (Rdb.string Try.underlying9 (by kernel_rfl)) (RdbFs.one (Rdb.slice Try.underlying22 (by kernel_rfl) (Rdb.int Try.underlying2 (by kernel_rfl)))))))))))) (fun y => (⟨y.1, y.2.1, y.2.2.1, y.2.2.2.1, y.2.2.2.2.1, y.2.2.2.2.2.1, y.2.2.2.2.2.2.1, y.2.2.2.2.2.2.2⟩ : S224)) (fun _ => rfl)
def ok165 (x : S165) : Prop := (x.f0.length ≤ 9223372036854775807 ∧ ∀ y ∈ x.f0, ok224 y)
set_option maxRecDepth 100000 in
theorem rdb165 : Rdb k165 Try.prog 165 ok165 := Rdb.iso (f := fun x : S165 => x.f0) (Rdb.struct Try.underlying165 (by kernel_rfl) [(163, 0)] rfl (RdbFs.one (Rdb.slice Try.underlying163 (by kernel_rfl) rdb224))) (fun y => (⟨y⟩ : S165)) (fun _ => rfl)
set_option maxRecDepth 100000 in
theorem rdbTop25 : Rdb (Kd.pair (Kd.int .i64) (Kd.pair (Kd.slice 2 (Kd.int .i64)) (Kd.slice 165 k165))) Try.prog 25 (fun x => (Lit.int .i64 x.1).wf = true ∧ (x.2.1.length ≤ 9223372036854775807 ∧ ∀ y ∈ x.2.1, (Lit.int .i64 y).wf = true) ∧ (x.2.2.length ≤ 9223372036854775807 ∧ ∀ y ∈ x.2.2, ok165 y)) := Rdb.struct Try.underlying25 (by kernel_rfl) [(2, 0), (22, 1), (23, 2)] rfl (RdbFs.cons rfl (Rdb.int Try.underlying2 (by kernel_rfl)) (RdbFs.cons rfl (Rdb.slice Try.underlying22 (by kernel_rfl) (Rdb.int Try.underlying2 (by kernel_rfl))) (RdbFs.one (Rdb.slice Try.underlying23 (by kernel_rfl) rdb165))))
end Go.Proofs.Ythegbhfoleiegaa.All

/- Plain laws of the printed functions: eventually (Ev), step by step; loops over a list. -/
namespace Go.Proofs.Ythegbhfoleiegaa.All
open Go.RowKit Go.Proofs.YthegbhfoleiegaaW.PrintWords Go.Proofs.YthegbhfoleiegaaW.PrintLast Go.Proofs.YthegbhfoleiegaaW.PrintMore
set_option linter.unusedVariables false
set_option linter.unusedSimpArgs false
theorem Ev.succ {α : Type} {g : Nat → Option α} {r : α} (h : Ev (fun k => g (k + 1)) r) : Ev g r := by
  obtain ⟨K, hK⟩ := h
  refine ⟨K + 1, fun k hk => ?_⟩
  obtain ⟨m, rfl⟩ : ∃ m, k = m + 1 := ⟨k - 1, by omega⟩
  exact hK m (by omega)
theorem Ev.pos {α : Type} {c : Prop} [Decidable c] {g h : Nat → Option α} {r : α} (hc : c) (k : Ev g r) : Ev (fun n => if c then g n else h n) r := Ev.congr (fun n => if_pos hc) k
theorem Ev.neg {α : Type} {c : Prop} [Decidable c] {g h : Nat → Option α} {r : α} (hc : ¬ c) (k : Ev h r) : Ev (fun n => if c then g n else h n) r := Ev.congr (fun n => if_neg hc) k
theorem Ev.some_bind {α β : Type} {a : α} {f : Nat → α → Option β} {r : β} (k : Ev (fun n => f n a) r) : Ev (fun n => (some a).bind (f n)) r := k
theorem Ev.eq_bind {α β : Type} {o : Option α} {a : α} {f : Nat → α → Option β} {r : β} (h : o = some a) (k : Ev (fun n => f n a) r) : Ev (fun n => o.bind (f n)) r := by subst h; exact k
theorem Ev.some {α : Type} {a r : α} (h : a = r) : Ev (fun _ => some a) r := h ▸ Ev.now a
theorem wrap64_id {x : Int} (h1 : -9223372036854775808 ≤ x) (h2 : x ≤ 9223372036854775807) : wrap64 x = x := by unfold wrap64; omega
theorem wrap64_nat {i : Nat} (h : i < 9223372036854775807) : wrap64 ((i : Int) + 1) = ((i + 1 : Nat) : Int) := by rw [wrap64_id (by omega) (by omega)]; rfl
theorem getD_eq {α : Type} {xs : List α} {i : Nat} (h : i < xs.length) (z : α) : xs.getD i z = xs[i] := by rw [List.getD_eq_getElem?_getD, List.getElem?_eq_getElem h]; rfl
/-- A loop that fills a list of the same length. -/
theorem to_gen {α β : Type} (f : α → β) (z : β) (za : α) (xs : List α) (g : Nat → List β → Int → Option (List β))
    (hstep : ∀ (i : Nat) (out : List β) (r : List β), i < xs.length → out.length = xs.length → Ev (fun k => g k (out.set i (f (xs.getD i za))) ((i + 1 : Nat) : Int)) r → Ev (fun k => g k out (i : Int)) r)
    (hend : ∀ out : List β, out.length = xs.length → Ev (fun k => g k out (xs.length : Int)) out) : Ev (fun k => g k (List.replicate xs.length z) 0) (xs.map f) := by
  have key : ∀ d i : Nat, i + d = xs.length → Ev (fun k => g k ((xs.map f).take i ++ List.replicate (xs.length - i) z) (i : Int)) (xs.map f) := by
    intro d
    induction d with
    | zero =>
      intro i hi
      obtain rfl : i = xs.length := by omega
      rw [Nat.sub_self, List.replicate_zero, List.append_nil, List.take_of_length_le (by simp)]
      exact hend _ (by simp)
    | succ d ih =>
      intro i hi
      have h1 := ih (i + 1) (by omega)
      refine hstep i _ _ (by omega) (by simp; omega) ?_
      have e : ((xs.map f).take i ++ List.replicate (xs.length - i) z).set i (f (xs.getD i za)) = (xs.map f).take (i + 1) ++ List.replicate (xs.length - (i + 1)) z := by
        have hl : ((xs.map f).take i).length = i := by simp; omega
        rw [List.set_append_right _ _ (by omega), hl, Nat.sub_self]
        obtain ⟨m, hm⟩ : ∃ m, xs.length - i = m + 1 := ⟨xs.length - i - 1, by omega⟩
        rw [hm, List.replicate_succ, List.set_cons_zero, List.take_succ_eq_append_getElem (by simp; omega), show xs.length - (i + 1) = m by omega, List.append_assoc]
        congr 1
        simp [List.getElem?_eq_getElem (show i < xs.length by omega)]
      rw [e]
      exact h1
  have h0 := key xs.length 0 (by omega)
  simpa using h0
/-- A loop whose end is r, whatever happens on the way. -/
theorem for_gen {ρ : Type} (r : ρ) (n : Nat) (g : Nat → Int → Option ρ) (hstep : ∀ i : Nat, i < n → Ev (fun k => g k ((i + 1 : Nat) : Int)) r → Ev (fun k => g k (i : Int)) r) (hend : Ev (fun k => g k (n : Int)) r) : Ev (fun k => g k 0) r := by
  have key : ∀ d i : Nat, i + d = n → Ev (fun k => g k (i : Int)) r := by
    intro d
    induction d with
    | zero => intro i hi; obtain rfl : i = n := by omega
              exact hend
    | succ d ih => intro i hi; exact hstep i (by omega) (ih (i + 1) (by omega))
  exact key n 0 (by omega)
/-- A loop that says yes at each step. -/
theorem all_gen (n : Nat) (g : Nat → Int → Option Bool) (hstep : ∀ i : Nat, i < n → Ev (fun k => g k ((i + 1 : Nat) : Int)) true → Ev (fun k => g k (i : Int)) true) (hend : Ev (fun k => g k (n : Int)) true) : Ev (fun k => g k 0) true := for_gen true n g hstep hend
/-- A loop that writes each element anew, by its number. -/
theorem mk_gen {β ρ : Type} (f : Nat → β) (xs : List β) (fin : List β → ρ) (g : Nat → List β → Int → Option ρ)
    (hstep : ∀ (i : Nat) (out : List β) (r : ρ), i < xs.length → out.length = xs.length → Ev (fun k => g k (out.set i (f i)) ((i + 1 : Nat) : Int)) r → Ev (fun k => g k out (i : Int)) r)
    (hend : ∀ out : List β, out.length = xs.length → Ev (fun k => g k out (xs.length : Int)) (fin out)) : Ev (fun k => g k xs 0) (fin ((List.range xs.length).map f)) := by
  have key : ∀ d i : Nat, i + d = xs.length → Ev (fun k => g k ((List.range i).map f ++ xs.drop i) (i : Int)) (fin ((List.range xs.length).map f)) := by
    intro d
    induction d with
    | zero =>
      intro i hi
      obtain rfl : i = xs.length := by omega
      rw [List.drop_length, List.append_nil]
      exact hend _ (by simp)
    | succ d ih =>
      intro i hi
      have h1 := ih (i + 1) (by omega)
      refine hstep i _ _ (by omega) (by simp; omega) ?_
      have e : ((List.range i).map f ++ xs.drop i).set i (f i) = (List.range (i + 1)).map f ++ xs.drop (i + 1) := by
        have hl : ((List.range i).map f).length = i := by simp
        rw [List.set_append_right _ _ (by omega), hl, Nat.sub_self, List.drop_eq_getElem_cons (show i < xs.length by omega), List.set_cons_zero, List.range_succ, List.map_append, List.append_assoc]
        rfl
      rw [e]
      exact h1
  have h0 := key xs.length 0 (by omega)
  simpa using h0
/-- A loop that takes sizes off; below 0 it ends with -1. -/
theorem sz_gen {α : Type} (s : α → Nat) (za : α) (xs : List α) (g : Nat → Int → Int → Option Int)
    (hstep : ∀ (i : Nat) (a r : Int), i < xs.length → 0 ≤ a → a ≤ 1048576 → (if (s (xs.getD i za) : Int) ≤ a then Ev (fun k => g k (a - s (xs.getD i za)) ((i + 1 : Nat) : Int)) r else r = -1) → Ev (fun k => g k a (i : Int)) r)
    (hend : ∀ a : Int, Ev (fun k => g k a (xs.length : Int)) a) (a : Int) (h0 : 0 ≤ a) (h1 : a ≤ 1048576) : Ev (fun k => g k a 0) (if ((xs.map s).sum : Int) ≤ a then a - (xs.map s).sum else -1) := by
  have key : ∀ d i : Nat, i + d = xs.length → ∀ a : Int, 0 ≤ a → a ≤ 1048576 → Ev (fun k => g k a (i : Int)) (if ((((xs.drop i).map s).sum : Nat) : Int) ≤ a then a - (((xs.drop i).map s).sum : Nat) else -1) := by
    intro d
    induction d with
    | zero =>
      intro i hi a h0 h1
      obtain rfl : i = xs.length := by omega
      rw [List.drop_length]
      simp [h0]
      exact hend a
    | succ d ih =>
      intro i hi a h0 h1
      have hlt : i < xs.length := by omega
      refine hstep i a _ hlt h0 h1 ?_
      rw [List.drop_eq_getElem_cons hlt, List.map_cons, List.sum_cons, getD_eq hlt]
      split
      · rename_i hc
        have h2 := ih (i + 1) (by omega) (a - (s xs[i] : Nat)) (by omega) (by omega)
        have e : (if ((((xs.drop (i + 1)).map s).sum : Nat) : Int) ≤ a - (s xs[i] : Nat) then a - (s xs[i] : Nat) - (((xs.drop (i + 1)).map s).sum : Nat) else -1) = (if ((s xs[i] + ((xs.drop (i + 1)).map s).sum : Nat) : Int) ≤ a then a - (s xs[i] + ((xs.drop (i + 1)).map s).sum : Nat) else -1) := by
          split <;> split <;> omega
        rw [← e]
        exact h2
      · rename_i hc
        rw [if_neg (by omega)]
  have h2 := key xs.length 0 (by omega) a h0 h1
  simpa using h2
theorem sum_getD_le {α : Type} (s : α → Nat) (z : α) : ∀ (xs : List α) (i : Nat), i < xs.length → s (xs.getD i z) ≤ (xs.map s).sum
  | x :: xs, 0, _ => by simp
  | x :: xs, i + 1, h => by
    have := sum_getD_le s z xs i (by simpa using h)
    simp only [List.getD_cons_succ, List.map_cons, List.sum_cons] at this ⊢
    omega
end Go.Proofs.Ythegbhfoleiegaa.All

/- Plain laws of the laws' sz, to and eq over VFunc. Printed by gen_plain.py. -/
namespace Go.Proofs.Ythegbhfoleiegaa.All
open Go.RowKit Go.Proofs.YthegbhfoleiegaaW.PrintWords Go.Proofs.YthegbhfoleiegaaW.PrintLast Go.Proofs.YthegbhfoleiegaaW.PrintMore
set_option linter.unusedVariables false
set_option linter.unusedSimpArgs false
theorem sz_bind {s1 s2 : Nat} {a : Int} {g : Nat → Option Int} {G : Nat → Int → Option Int} (h : Ev g (if (s1 : Int) ≤ a then a - (s1 : Int) else -1)) (h2 : (s1 : Int) ≤ a → Ev (fun k => G k (a - (s1 : Int))) (if (s2 : Int) ≤ a - (s1 : Int) then a - (s1 : Int) - (s2 : Int) else -1)) : Ev (fun k => (g k).bind fun t => if t < 0 then some (-1) else G k t) (if ((s1 + s2 : Nat) : Int) ≤ a then a - ((s1 + s2 : Nat) : Int) else -1) := by
  by_cases c : (s1 : Int) ≤ a
  · rw [if_pos c] at h
    refine Ev.bind h (Ev.neg (by omega) ?_)
    have e : (if (s2 : Int) ≤ a - (s1 : Int) then a - (s1 : Int) - (s2 : Int) else -1) = (if ((s1 + s2 : Nat) : Int) ≤ a then a - ((s1 + s2 : Nat) : Int) else -1) := by split <;> split <;> omega
    rw [← e]
    exact h2 c
  · rw [if_neg c] at h
    rw [if_neg (by omega)]
    exact Ev.bind h (Ev.pos (by omega) (Ev.now _))
theorem sz_str {s1 s2 : Nat} {a : Int} {G : Nat → Option Int} (h2 : (s1 : Int) ≤ a → Ev G (if (s2 : Int) ≤ a - (s1 : Int) then a - (s1 : Int) - (s2 : Int) else -1)) : Ev (fun k => if a - (s1 : Int) < 0 then some (-1) else G k) (if ((s1 + s2 : Nat) : Int) ≤ a then a - ((s1 + s2 : Nat) : Int) else -1) := by
  by_cases c : (s1 : Int) ≤ a
  · have e : (if (s2 : Int) ≤ a - (s1 : Int) then a - (s1 : Int) - (s2 : Int) else -1) = (if ((s1 + s2 : Nat) : Int) ≤ a then a - ((s1 + s2 : Nat) : Int) else -1) := by split <;> split <;> omega
    rw [← e]
    exact Ev.neg (by omega) (h2 c)
  · rw [if_neg (by omega)]
    exact Ev.pos (by omega) (Ev.now _)
theorem sz_end (a : Int) (h : 0 ≤ a) : Ev (fun _ => some a) (if ((0 : Nat) : Int) ≤ a then a - ((0 : Nat) : Int) else -1) := by
  rw [if_pos (by omega)]
  exact Ev.some (by omega)
theorem szInt64S_f (l : List Int) (a : Int) (h0 : 0 ≤ a) (h1 : a ≤ 1048576) (hl : l.length ≤ 9223372036854775807) : Ev (fun k => laws_szInt64S.f l a) (if (l.length : Int) ≤ a then a - (l.length : Int) else -1) := by
  unfold laws_szInt64S.f; rw [wrap64_id (by omega) (by omega)]
  by_cases h : (l.length : Int) ≤ a
  · rw [if_pos h]; exact Ev.neg (by omega) (Ev.now _)
  · rw [if_neg h]; exact Ev.pos (by omega) (Ev.now _)
theorem toInt64S_f (l : List Int) (hl : l.length ≤ 1048576) : Ev (fun k => laws_toInt64S.f k l) l := by
  unfold laws_toInt64S.f
  refine Ev.pos (by omega) (Ev.pos (by omega) ?_)
  have h := to_gen (fun x : Int => x) 0 0 l (fun k out i => laws_toInt64S.l0 k l out i) (fun i out r hi ho h => by
    refine Ev.succ ?_
    simp only [laws_toInt64S.l0]
    refine Ev.pos (by omega) (Ev.pos (by omega) (Ev.pos (by omega) ?_))
    rw [wrap64_nat (by omega)]
    simpa [rd] using h) (fun out _ => by
    refine Ev.succ ?_
    simp only [laws_toInt64S.l0]
    exact Ev.neg (by omega) (Ev.now _))
  simpa using h
theorem eqInt64S_f (l : List Int) (hl : l.length ≤ 1048576) : Ev (fun k => laws_eqInt64S.f k l l) true := by
  unfold laws_eqInt64S.f
  refine Ev.pos rfl (all_gen l.length (fun k i => laws_eqInt64S.l0 k l l i) (fun i hi h => ?_) ?_)
  · refine Ev.succ ?_
    simp only [laws_eqInt64S.l0]
    rw [wrap64_nat (by omega)]
    exact Ev.pos (by omega) (Ev.pos (by omega) (Ev.pos (by omega) (Ev.pos (by trivial) h)))
  · refine Ev.succ ?_
    simp only [laws_eqInt64S.l0]
    exact Ev.neg (by omega) (Ev.now _)
def iVIns (x : S224) : S87 := ⟨x.f0, x.f1, x.f2, x.f3, x.f4, x.f5, x.f6, x.f7⟩
def sVIns (x : S224) : Nat := x.f6.size + (x.f7.length + (0))
def lVIns (x : S224) : Prop := x.f6.size ≤ 9223372036854775807 ∧ x.f7.length ≤ 9223372036854775807
def bVIns (x : S87) : Prop := x.f7.length ≤ 1048576
theorem szVIns_f (x : S224) (a : Int) (h0 : 0 ≤ a) (h1 : a ≤ 1048576) (hx : lVIns x) : Ev (fun k => laws_szVIns.f x.f0 x.f1 x.f2 x.f3 x.f4 x.f5 x.f6 x.f7 a) (if (sVIns x : Int) ≤ a then a - (sVIns x : Int) else -1) := by
  obtain ⟨k0, k1⟩ := hx
  unfold laws_szVIns.f sVIns
  rw [wrap64_id (by omega) (by omega)]
  refine sz_str (fun e0 => ?_)
  refine sz_bind (szInt64S_f _ _ (by omega) (by omega) k1) (fun e1 => ?_)
  exact sz_end _ (by omega)
theorem toVIns_f (x : S224) (h : sVIns x ≤ 1048576) : Ev (fun k => laws_toVIns.f k x.f0 x.f1 x.f2 x.f3 x.f4 x.f5 x.f6 x.f7) (x.f0, x.f1, x.f2, x.f3, x.f4, x.f5, x.f6, x.f7) := by
  unfold sVIns at h
  unfold laws_toVIns.f
  refine Ev.bind (toInt64S_f _ (by omega)) ?_
  exact Ev.now _
theorem eqVIns_f (x : S87) (hb : bVIns x) : Ev (fun k => laws_eqVIns.f k x.f0 x.f1 x.f2 x.f3 x.f4 x.f5 x.f6 x.f7 x.f0 x.f1 x.f2 x.f3 x.f4 x.f5 x.f6 x.f7) true := by
  have k0 := hb
  unfold laws_eqVIns.f
  refine Ev.pos rfl ?_
  refine Ev.pos rfl ?_
  refine Ev.pos rfl ?_
  refine Ev.pos rfl ?_
  refine Ev.pos rfl ?_
  refine Ev.pos rfl ?_
  refine Ev.pos rfl ?_
  refine Ev.bind (eqInt64S_f _ k0) (Ev.pos rfl ?_)
  exact Ev.now _
theorem bVIns_of (x : S224) (h : sVIns x ≤ 1048576) : bVIns (iVIns x) := by
  unfold sVIns at h
  refine ?_
  · show x.f7.length ≤ _; omega
def sVInsS (xs : List S224) : Nat := xs.length + (xs.map sVIns).sum
def lVInsS (xs : List S224) : Prop := xs.length ≤ 9223372036854775807 ∧ ∀ x ∈ xs, lVIns x
def bVInsS (xs : List S87) : Prop := xs.length ≤ 1048576 ∧ ∀ x ∈ xs, bVIns x
theorem szVInsS_f (xs : List S224) (a : Int) (h0 : 0 ≤ a) (h1 : a ≤ 1048576) (hx : lVInsS xs) : Ev (fun k => laws_szVInsS.f k xs a) (if (sVInsS xs : Int) ≤ a then a - (sVInsS xs : Int) else -1) := by
  obtain ⟨hl, hx⟩ := hx
  unfold laws_szVInsS.f
  rw [wrap64_id (by omega) (by omega)]
  by_cases c : (xs.length : Int) ≤ a
  · refine Ev.neg (by omega) ?_
    have h := sz_gen sVIns z224 xs (fun k a i => laws_szVInsS.l0 k xs a i) (fun i a r hi h0 h1 h => by
      refine Ev.succ ?_
      simp only [laws_szVInsS.l0]
      refine Ev.pos (by omega) (Ev.pos (by omega) ?_)
      have hm : lVIns (rd_T224 xs i) := hx _ (by simp only [rd_T224, Int.toNat_natCast]; rw [getD_eq hi]; exact List.getElem_mem hi)
      have e : rd_T224 xs i = xs.getD i z224 := by simp [rd_T224]
      refine Ev.bind (szVIns_f _ a h0 h1 hm) ?_
      rw [e]
      split at h
      · rename_i hc
        rw [if_pos hc, wrap64_nat (by omega)]
        exact Ev.neg (by omega) h
      · rename_i hc
        rw [if_neg hc]
        exact Ev.pos (by omega) (Ev.some h.symm)) (fun a => by
      refine Ev.succ ?_
      simp only [laws_szVInsS.l0]
      exact Ev.neg (by omega) (Ev.now _)) (a - xs.length) (by omega) (by omega)
    have e : (if ((xs.map sVIns).sum : Int) ≤ a - xs.length then a - xs.length - (xs.map sVIns).sum else -1) = (if (sVInsS xs : Int) ≤ a then a - sVInsS xs else -1) := by unfold sVInsS; split <;> split <;> omega
    rw [← e]
    exact h
  · rw [if_neg (by unfold sVInsS; omega)]
    exact Ev.pos (by omega) (Ev.now _)
theorem atVInsS {xs : List S224} {i : Nat} (h : sVInsS xs ≤ 1048576) (hi : i < xs.length) : sVIns (xs.getD i z224) ≤ 1048576 := by
  have := sum_getD_le sVIns z224 xs i hi
  unfold sVInsS at h
  omega
theorem toVInsS_f (l : List S224) (hl : sVInsS l ≤ 1048576) : Ev (fun k => laws_toVInsS.f k l) (l.map iVIns) := by
  unfold laws_toVInsS.f
  have hl1 : l.length ≤ 1048576 := by unfold sVInsS at hl; omega
  refine Ev.pos (by omega) (Ev.pos (by omega) ?_)
  have h := to_gen iVIns z87 z224 l (fun k out i => laws_toVInsS.l0 k l out i) (fun i out r hi ho h => by
    refine Ev.succ ?_
    simp only [laws_toVInsS.l0]
    have e : rd_T224 l i = l.getD i z224 := by simp [rd_T224]
    rw [e]
    refine Ev.pos (by omega) (Ev.pos (by omega) (Ev.bind (toVIns_f _ (atVInsS hl hi)) (Ev.pos (by omega) ?_)))
    rw [wrap64_nat (by omega)]
    exact h) (fun out _ => by
    refine Ev.succ ?_
    simp only [laws_toVInsS.l0]
    exact Ev.neg (by omega) (Ev.now _))
  simpa using h
theorem eqVInsS_f (l : List S87) (hb : bVInsS l) : Ev (fun k => laws_eqVInsS.f k l l) true := by
  obtain ⟨hl, hb⟩ := hb
  unfold laws_eqVInsS.f
  refine Ev.pos rfl (all_gen l.length (fun k i => laws_eqVInsS.l0 k l l i) (fun i hi h => ?_) ?_)
  · refine Ev.succ ?_
    simp only [laws_eqVInsS.l0]
    rw [wrap64_nat (by omega)]
    have hm : bVIns (rd_T87 l i) := hb _ (by simp only [rd_T87, Int.toNat_natCast]; rw [getD_eq hi]; exact List.getElem_mem hi)
    exact Ev.pos (by omega) (Ev.pos (by omega) (Ev.pos (by omega) (Ev.bind (eqVIns_f _ hm) (Ev.pos rfl h))))
  · refine Ev.succ ?_
    simp only [laws_eqVInsS.l0]
    exact Ev.neg (by omega) (Ev.now _)
theorem bVInsS_of (xs : List S224) (h : sVInsS xs ≤ 1048576) : bVInsS (xs.map iVIns) := by
  refine ⟨by rw [List.length_map]; unfold sVInsS at h; omega, fun y hy => ?_⟩
  obtain ⟨x, hx, rfl⟩ := List.mem_map.1 hy
  obtain ⟨i, hi, rfl⟩ := List.getElem_of_mem hx
  have := atVInsS h hi
  rw [getD_eq hi] at this
  exact bVIns_of _ this
def iVBlock (x : S165) : S85 := ⟨(x.f0.map iVIns)⟩
def sVBlock (x : S165) : Nat := sVInsS x.f0 + (0)
def lVBlock (x : S165) : Prop := lVInsS x.f0
def bVBlock (x : S85) : Prop := bVInsS x.f0
theorem szVBlock_f (x : S165) (a : Int) (h0 : 0 ≤ a) (h1 : a ≤ 1048576) (hx : lVBlock x) : Ev (fun k => laws_szVBlock.f k x.f0 a) (if (sVBlock x : Int) ≤ a then a - (sVBlock x : Int) else -1) := by
  have k0 : lVInsS x.f0 := hx
  unfold laws_szVBlock.f sVBlock
  refine sz_bind (szVInsS_f _ _ (by omega) (by omega) k0) (fun e0 => ?_)
  exact sz_end _ (by omega)
theorem toVBlock_f (x : S165) (h : sVBlock x ≤ 1048576) : Ev (fun k => laws_toVBlock.f k x.f0) (x.f0.map iVIns) := by
  unfold sVBlock at h
  unfold laws_toVBlock.f
  refine Ev.bind (toVInsS_f _ (by omega)) ?_
  exact Ev.now _
theorem eqVBlock_f (x : S85) (hb : bVBlock x) : Ev (fun k => laws_eqVBlock.f k x.f0 x.f0) true := by
  have k0 := hb
  unfold laws_eqVBlock.f
  refine Ev.bind (eqVInsS_f _ k0) (Ev.pos rfl ?_)
  exact Ev.now _
theorem bVBlock_of (x : S165) (h : sVBlock x ≤ 1048576) : bVBlock (iVBlock x) := by
  unfold sVBlock at h
  refine ?_
  · exact bVInsS_of _ (by omega)
def sVBlockS (xs : List S165) : Nat := xs.length + (xs.map sVBlock).sum
def lVBlockS (xs : List S165) : Prop := xs.length ≤ 9223372036854775807 ∧ ∀ x ∈ xs, lVBlock x
def bVBlockS (xs : List S85) : Prop := xs.length ≤ 1048576 ∧ ∀ x ∈ xs, bVBlock x
theorem szVBlockS_f (xs : List S165) (a : Int) (h0 : 0 ≤ a) (h1 : a ≤ 1048576) (hx : lVBlockS xs) : Ev (fun k => laws_szVBlockS.f k xs a) (if (sVBlockS xs : Int) ≤ a then a - (sVBlockS xs : Int) else -1) := by
  obtain ⟨hl, hx⟩ := hx
  unfold laws_szVBlockS.f
  rw [wrap64_id (by omega) (by omega)]
  by_cases c : (xs.length : Int) ≤ a
  · refine Ev.neg (by omega) ?_
    have h := sz_gen sVBlock z165 xs (fun k a i => laws_szVBlockS.l0 k xs a i) (fun i a r hi h0 h1 h => by
      refine Ev.succ ?_
      simp only [laws_szVBlockS.l0]
      refine Ev.pos (by omega) (Ev.pos (by omega) ?_)
      have hm : lVBlock (rd_T165 xs i) := hx _ (by simp only [rd_T165, Int.toNat_natCast]; rw [getD_eq hi]; exact List.getElem_mem hi)
      have e : rd_T165 xs i = xs.getD i z165 := by simp [rd_T165]
      refine Ev.bind (szVBlock_f _ a h0 h1 hm) ?_
      rw [e]
      split at h
      · rename_i hc
        rw [if_pos hc, wrap64_nat (by omega)]
        exact Ev.neg (by omega) h
      · rename_i hc
        rw [if_neg hc]
        exact Ev.pos (by omega) (Ev.some h.symm)) (fun a => by
      refine Ev.succ ?_
      simp only [laws_szVBlockS.l0]
      exact Ev.neg (by omega) (Ev.now _)) (a - xs.length) (by omega) (by omega)
    have e : (if ((xs.map sVBlock).sum : Int) ≤ a - xs.length then a - xs.length - (xs.map sVBlock).sum else -1) = (if (sVBlockS xs : Int) ≤ a then a - sVBlockS xs else -1) := by unfold sVBlockS; split <;> split <;> omega
    rw [← e]
    exact h
  · rw [if_neg (by unfold sVBlockS; omega)]
    exact Ev.pos (by omega) (Ev.now _)
theorem atVBlockS {xs : List S165} {i : Nat} (h : sVBlockS xs ≤ 1048576) (hi : i < xs.length) : sVBlock (xs.getD i z165) ≤ 1048576 := by
  have := sum_getD_le sVBlock z165 xs i hi
  unfold sVBlockS at h
  omega
theorem toVBlockS_f (l : List S165) (hl : sVBlockS l ≤ 1048576) : Ev (fun k => laws_toVBlockS.f k l) (l.map iVBlock) := by
  unfold laws_toVBlockS.f
  have hl1 : l.length ≤ 1048576 := by unfold sVBlockS at hl; omega
  refine Ev.pos (by omega) (Ev.pos (by omega) ?_)
  have h := to_gen iVBlock z85 z165 l (fun k out i => laws_toVBlockS.l0 k l out i) (fun i out r hi ho h => by
    refine Ev.succ ?_
    simp only [laws_toVBlockS.l0]
    have e : rd_T165 l i = l.getD i z165 := by simp [rd_T165]
    rw [e]
    refine Ev.pos (by omega) (Ev.pos (by omega) (Ev.bind (toVBlock_f _ (atVBlockS hl hi)) (Ev.pos (by omega) ?_)))
    rw [wrap64_nat (by omega)]
    exact h) (fun out _ => by
    refine Ev.succ ?_
    simp only [laws_toVBlockS.l0]
    exact Ev.neg (by omega) (Ev.now _))
  simpa using h
theorem eqVBlockS_f (l : List S85) (hb : bVBlockS l) : Ev (fun k => laws_eqVBlockS.f k l l) true := by
  obtain ⟨hl, hb⟩ := hb
  unfold laws_eqVBlockS.f
  refine Ev.pos rfl (all_gen l.length (fun k i => laws_eqVBlockS.l0 k l l i) (fun i hi h => ?_) ?_)
  · refine Ev.succ ?_
    simp only [laws_eqVBlockS.l0]
    rw [wrap64_nat (by omega)]
    have hm : bVBlock (rd_T85 l i) := hb _ (by simp only [rd_T85, Int.toNat_natCast]; rw [getD_eq hi]; exact List.getElem_mem hi)
    exact Ev.pos (by omega) (Ev.pos (by omega) (Ev.pos (by omega) (Ev.bind (eqVBlock_f _ hm) (Ev.pos rfl h))))
  · refine Ev.succ ?_
    simp only [laws_eqVBlockS.l0]
    exact Ev.neg (by omega) (Ev.now _)
theorem bVBlockS_of (xs : List S165) (h : sVBlockS xs ≤ 1048576) : bVBlockS (xs.map iVBlock) := by
  refine ⟨by rw [List.length_map]; unfold sVBlockS at h; omega, fun y hy => ?_⟩
  obtain ⟨x, hx, rfl⟩ := List.mem_map.1 hy
  obtain ⟨i, hi, rfl⟩ := List.getElem_of_mem hx
  have := atVBlockS h hi
  rw [getD_eq hi] at this
  exact bVBlock_of _ this
def sVFunc (f0 : Int) (f1 : List Int) (f2 : List S165) : Nat := f1.length + (sVBlockS f2 + (0))
def lVFunc (f0 : Int) (f1 : List Int) (f2 : List S165) : Prop := f1.length ≤ 9223372036854775807 ∧ lVBlockS f2
def bVFunc (f0 : Int) (f1 : List Int) (f2 : List S85) : Prop := f1.length ≤ 1048576 ∧ bVBlockS f2
theorem szVFunc_f (f0 : Int) (f1 : List Int) (f2 : List S165) (a : Int) (h0 : 0 ≤ a) (h1 : a ≤ 1048576) (hx : lVFunc f0 f1 f2) : Ev (fun k => laws_szVFunc.f k f0 f1 f2 a) (if (sVFunc f0 f1 f2 : Int) ≤ a then a - (sVFunc f0 f1 f2 : Int) else -1) := by
  obtain ⟨k0, k1⟩ := hx
  unfold laws_szVFunc.f sVFunc
  refine sz_bind (szInt64S_f _ _ (by omega) (by omega) k0) (fun e0 => ?_)
  refine sz_bind (szVBlockS_f _ _ (by omega) (by omega) k1) (fun e1 => ?_)
  exact sz_end _ (by omega)
theorem toVFunc_f (f0 : Int) (f1 : List Int) (f2 : List S165) (h : sVFunc f0 f1 f2 ≤ 1048576) : Ev (fun k => laws_toVFunc.f k f0 f1 f2) (f0, f1, (f2.map iVBlock)) := by
  unfold sVFunc at h
  unfold laws_toVFunc.f
  refine Ev.bind (toInt64S_f _ (by omega)) ?_
  refine Ev.bind (toVBlockS_f _ (by omega)) ?_
  exact Ev.now _
theorem eqVFunc_f (f0 : Int) (f1 : List Int) (f2 : List S85) (hb : bVFunc f0 f1 f2) : Ev (fun k => laws_eqVFunc.f k f0 f1 f2 f0 f1 f2) true := by
  obtain ⟨k0, k1⟩ := hb
  unfold laws_eqVFunc.f
  refine Ev.pos rfl ?_
  refine Ev.bind (eqInt64S_f _ k0) (Ev.pos rfl ?_)
  refine Ev.bind (eqVBlockS_f _ k1) (Ev.pos rfl ?_)
  exact Ev.now _
theorem bVFunc_of (f0 : Int) (f1 : List Int) (f2 : List S165) (h : sVFunc f0 f1 f2 ≤ 1048576) : bVFunc f0 f1 (f2.map iVBlock) := by
  unfold sVFunc at h
  refine ⟨?_, ?_⟩
  · show f1.length ≤ _; omega
  · exact bVBlockS_of _ (by omega)
end Go.Proofs.Ythegbhfoleiegaa.All

/- Plain laws: a result's own cells marked, and found marked. -/
namespace Go.Proofs.Ythegbhfoleiegaa.All
open Go.RowKit Go.Proofs.YthegbhfoleiegaaW.PrintWords Go.Proofs.YthegbhfoleiegaaW.PrintLast Go.Proofs.YthegbhfoleiegaaW.PrintMore
set_option linter.unusedVariables false
set_option linter.unusedSimpArgs false
def marks (n : Nat) : List Int := (List.range n).map fun (j : Nat) => (1 : Int) + (j : Int)
theorem marks_length (n : Nat) : (marks n).length = n := by simp [marks]
theorem marks_at (n i : Nat) (h : i < n) : rd (marks n) i = 1 + i := by
  simp [rd, marks, List.getElem?_range, h]
theorem markInt64S_f (l : List Int) (hl : l.length ≤ 1000000000000) : Ev (fun k => laws_markInt64S.f k l 1) ((1 : Int) + (l.length : Nat), marks l.length) := by
  unfold laws_markInt64S.f marks
  refine mk_gen (fun (j : Nat) => (1 : Int) + (j : Int)) l (fun out => ((1 : Int) + (l.length : Nat), out)) (fun k out i => laws_markInt64S.l0 k out (1 + i) i) (fun i out r hi ho h => ?_) (fun out ho => ?_)
  · refine Ev.succ ?_
    simp only [laws_markInt64S.l0]
    refine Ev.pos (by omega) (Ev.pos (by omega) ?_)
    rw [wrap64_nat (by omega), wrap64_id (by omega) (by omega)]
    have e : (1 : Int) + ((i + 1 : Nat) : Int) = 1 + (i : Int) + 1 := by omega
    rw [e] at h
    simpa using h
  · refine Ev.succ ?_
    simp only [laws_markInt64S.l0]
    exact Ev.neg (by omega) (Ev.now _)
theorem heldInt64S_f (n : Nat) (hl : n ≤ 1000000000000) : Ev (fun k => laws_heldInt64S.f k (marks n) 1) ((1 : Int) + (n : Nat)) := by
  unfold laws_heldInt64S.f
  refine for_gen ((1 : Int) + (n : Nat)) n (fun k i => laws_heldInt64S.l0 k (marks n) (1 + i) i) (fun i hi h => ?_) ?_
  · refine Ev.succ ?_
    simp only [laws_heldInt64S.l0]
    rw [marks_at n i hi]
    refine Ev.pos (by rw [marks_length]; omega) (Ev.pos (by omega) (Ev.pos rfl ?_))
    rw [wrap64_nat (by omega), wrap64_id (by omega) (by omega)]
    have e : (1 : Int) + ((i + 1 : Nat) : Int) = 1 + (i : Int) + 1 := by omega
    rw [e] at h
    exact h
  · refine Ev.succ ?_
    simp only [laws_heldInt64S.l0]
    exact Ev.neg (by rw [marks_length]; omega) (Ev.now _)
end Go.Proofs.Ythegbhfoleiegaa.All

/- What is live, told of sets: the least sets that are closed; impl's loop comes to them. -/
namespace Go.Proofs.Ythegbhfoleiegaa.All
open Go.RowKit Go.Proofs.YthegbhfoleiegaaW.PrintWords Go.Proofs.YthegbhfoleiegaaW.PrintLast Go.Proofs.YthegbhfoleiegaaW.PrintMore
set_option linter.unusedVariables false
set_option linter.unusedSimpArgs false
def stepQ (len : Nat) (S : Nat → Int → Prop) (i : S87) (nx : Int → Prop) (x : Int) : Prop := x ∈ readsL i ∨ (x ≠ i.f1 ∧ ((stopsB i.f0 = false ∧ nx x) ∨ (jumpsB i.f0 = true ∧ 0 ≤ i.f5 ∧ i.f5 < (len : Int) ∧ S i.f5.toNat x)))
def blockQ (len : Nat) (S : Nat → Int → Prop) (ins : List (S87)) : Int → Prop := ins.foldr (stepQ len S) (fun _ => False)
theorem blockQ_mono {len : Nat} {S T : Nat → Int → Prop} {x : Int} (h : ∀ b, b < len → S b x → T b x) : ∀ (ins : List (S87)), blockQ len S ins x → blockQ len T ins x
  | [], hx => hx
  | i :: ins, hx => by
    have hx' : stepQ len S i (blockQ len S ins) x := hx
    show stepQ len T i (blockQ len T ins) x
    unfold stepQ at hx' ⊢
    rcases hx' with h1 | ⟨h1, ⟨h2, h3⟩ | ⟨h2, h3, h4, h5⟩⟩
    · exact .inl h1
    · exact .inr ⟨h1, .inl ⟨h2, blockQ_mono h ins h3⟩⟩
    · exact .inr ⟨h1, .inr ⟨h2, h3, h4, h _ (by omega) h5⟩⟩
theorem blockK_mem (kss : List (List Int)) (x : Int) : ∀ (ins : List (S87)), x ∈ blockK kss ins ↔ blockQ kss.length (fun b x => x ∈ kss.getD b []) ins x
  | [] => by unfold blockK blockQ; simp
  | i :: ins => by
    show x ∈ aheadK i.f1 (readsL i) (behindK i.f0 i.f5 kss (blockK kss ins)) ↔ stepQ kss.length (fun b x => x ∈ kss.getD b []) i (blockQ kss.length (fun b x => x ∈ kss.getD b []) ins) x
    rw [aheadK_mem, behindK_mem]
    unfold stepQ flowK jumpK
    rw [← blockK_mem kss x ins]
    cases hs : stopsB i.f0 <;> by_cases hj : jumpsB i.f0 = true ∧ 0 ≤ i.f5 ∧ i.f5 < (kss.length : Int)
    · rw [if_pos hj]; simp [hj.1, hj.2.1, hj.2.2]
      constructor
      · rintro (⟨h1, h2⟩ | h1)
        · exact .inr ⟨h2, h1⟩
        · exact .inl h1
      · rintro (h1 | ⟨h2, h1⟩)
        · exact .inr h1
        · exact .inl ⟨h1, h2⟩
    · rw [if_neg hj]
      have hj2 : ∀ p : Prop, ¬ (jumpsB i.f0 = true ∧ 0 ≤ i.f5 ∧ i.f5 < (kss.length : Int) ∧ p) := fun p h => hj ⟨h.1, h.2.1, h.2.2.1⟩
      simp [hj2]
      constructor
      · rintro (⟨h1, h2⟩ | h1)
        · exact .inr ⟨h2, h1⟩
        · exact .inl h1
      · rintro (h1 | ⟨h2, h1⟩)
        · exact .inr h1
        · exact .inl ⟨h1, h2⟩
    · rw [if_pos hj]; simp [hj.1, hj.2.1, hj.2.2]
      constructor
      · rintro (⟨h1, h2⟩ | h1)
        · exact .inr ⟨h2, h1⟩
        · exact .inl h1
      · rintro (h1 | ⟨h2, h1⟩)
        · exact .inr h1
        · exact .inl ⟨h1, h2⟩
    · rw [if_neg hj]
      have hj2 : ∀ p : Prop, ¬ (jumpsB i.f0 = true ∧ 0 ≤ i.f5 ∧ i.f5 < (kss.length : Int) ∧ p) := fun p h => hj ⟨h.1, h.2.1, h.2.2.1⟩
      simp [hj2]
def SK (kss : List (List Int)) (b : Nat) (x : Int) : Prop := x ∈ kss.getD b []
/-- Each set lies within what is worked out from all. -/
def Asc (bl : List (S85)) (S : Nat → Int → Prop) : Prop := ∀ b, b < bl.length → ∀ x, S b x → blockQ bl.length S (insAt bl b) x
/-- The sets lie within all that are closed. -/
def Low (bl : List (S85)) (S : Nat → Int → Prop) : Prop := ∀ (x : Int) (T : Nat → Int → Prop), (∀ b, b < bl.length → blockQ bl.length T (insAt bl b) x → T b x) → ∀ b, b < bl.length → S b x → T b x
def Fix (bl : List (S85)) (S : Nat → Int → Prop) : Prop := ∀ b, b < bl.length → ∀ x, S b x ↔ blockQ bl.length S (insAt bl b) x
theorem asc_step {bl : List (S85)} {S S' : Nat → Int → Prop} {b0 : Nat} (h : Asc bl S) (hb : b0 < bl.length) (h0 : ∀ x, S' b0 x ↔ blockQ bl.length S (insAt bl b0) x) (h1 : ∀ b, b ≠ b0 → ∀ x, S' b x ↔ S b x) : Asc bl S' ∧ ∀ b, b < bl.length → ∀ x, S b x → S' b x := by
  have hup : ∀ b, b < bl.length → ∀ x, S b x → S' b x := fun b hb' x hx => by
    by_cases e : b = b0
    · subst e; exact (h0 x).2 (h b hb' x hx)
    · exact (h1 b e x).2 hx
  refine ⟨fun b hb' x hx => ?_, hup⟩
  by_cases e : b = b0
  · subst e
    exact blockQ_mono (fun c hc => hup c hc x) _ ((h0 x).1 hx)
  · exact blockQ_mono (fun c hc => hup c hc x) _ (h b hb' x ((h1 b e x).1 hx))
theorem low_step {bl : List (S85)} {S S' : Nat → Int → Prop} {b0 : Nat} (h : Low bl S) (h0 : ∀ x, S' b0 x → blockQ bl.length S (insAt bl b0) x) (h1 : ∀ b, b ≠ b0 → ∀ x, S' b x → S b x) : Low bl S' := fun x T hT b hb hx => by
  by_cases e : b = b0
  · subst e
    exact hT b hb (blockQ_mono (fun c hc => h x T hT c hc) _ (h0 x hx))
  · exact h x T hT b hb (h1 b e x hx)
theorem SK_set (kss : List (List Int)) (b0 : Nat) (ks : List Int) (hb : b0 < kss.length) : (∀ x, SK (kss.set b0 ks) b0 x ↔ x ∈ ks) ∧ ∀ b, b ≠ b0 → ∀ x, SK (kss.set b0 ks) b x ↔ SK kss b x := by
  refine ⟨fun x => ?_, fun b hne x => ?_⟩
  · unfold SK
    rw [List.getD_eq_getElem?_getD, List.getElem?_set, if_pos rfl, if_pos hb]
    rfl
  · unfold SK
    rw [List.getD_eq_getElem?_getD, List.getElem?_set, if_neg (fun e => hne e.symm), ← List.getD_eq_getElem?_getD]
/-- What holds at each step of impl's loop. -/
structure KI (bl : List (S85)) (kss : List (List Int)) : Prop where
  hl : kss.length = bl.length
  nd : ∀ b, (kss.getD b []).Nodup
  sub : SubK (allR bl) kss
  asc : Asc bl (SK kss)
  low : Low bl (SK kss)
def sumK (kss : List (List Int)) : Nat := (kss.map List.length).sum
theorem sum_set : ∀ (l : List Nat) (i : Nat) (x : Nat), i < l.length → (l.set i x).sum + l.getD i 0 = l.sum + x
  | a :: l, 0, x, _ => by simp; omega
  | a :: l, i + 1, x, h => by
    have := sum_set l i x (by simpa using h)
    simp only [List.set_cons_succ, List.sum_cons, List.getD_cons_succ]
    omega
theorem sumK_set (kss : List (List Int)) (b : Nat) (ks : List Int) (hb : b < kss.length) : sumK (kss.set b ks) + (kss.getD b []).length = sumK kss + ks.length := by
  unfold sumK
  rw [List.map_set]
  have h := sum_set (kss.map List.length) b ks.length (by simpa using hb)
  have e : (kss.map List.length).getD b 0 = (kss.getD b []).length := by
    rw [List.getD_eq_getElem?_getD, List.getElem?_map, List.getD_eq_getElem?_getD, List.getElem?_eq_getElem hb]; rfl
  rw [e] at h
  exact h
theorem sumK_le {bl : List (S85)} {kss : List (List Int)} (h : KI bl kss) : sumK kss ≤ bl.length * (allR bl).length := by
  have : ∀ (l : List (List Int)) (m : Nat), (∀ k ∈ l, k.length ≤ m) → sumK l ≤ l.length * m := by
    intro l m hl
    unfold sumK
    induction l with
    | nil => simp
    | cons a l ih =>
      have h1 := hl a (by simp)
      have h2 := ih (fun k hk => hl k (by simp [hk]))
      simp only [List.map_cons, List.sum_cons, List.length_cons]
      rw [Nat.add_mul]
      omega
  rw [← h.hl]
  refine this kss _ (fun k hk => ?_)
  obtain ⟨i, hi, rfl⟩ := List.getElem_of_mem hk
  have e : kss.getD i [] = kss[i] := by rw [List.getD_eq_getElem?_getD, List.getElem?_eq_getElem hi]; rfl
  rw [← e]
  exact nodup_sub_len _ _ (h.nd i) (fun x hx => h.sub i x hx)
theorem KI.step {bl : List (S85)} {s : List (List Int) × Bool} (h : KI bl s.1) {b : Nat} (hb : b < bl.length) :
    KI bl (stepP bl s b).1 ∧ sumK s.1 ≤ sumK (stepP bl s b).1 ∧ ((stepP bl s b).2 = true → s.2 = true ∨ sumK s.1 < sumK (stepP bl s b).1) ∧ ((stepP bl s b).2 = false → (stepP bl s b).1 = s.1 ∧ s.2 = false ∧ (blockK s.1 (insAt bl b)).length = (s.1.getD b []).length) := by
  unfold stepP
  split
  · rename_i he
    exact ⟨h, Nat.le_refl _, fun h2 => .inl h2, fun h2 => ⟨rfl, h2, he⟩⟩
  · rename_i he
    have hbl : b < s.1.length := by rw [h.hl]; exact hb
    have hS := SK_set s.1 b (blockK s.1 (insAt bl b)) hbl
    have h0 : ∀ x, SK (s.1.set b (blockK s.1 (insAt bl b))) b x ↔ blockQ bl.length (SK s.1) (insAt bl b) x := fun x => by rw [hS.1 x, blockK_mem, h.hl]; exact Iff.rfl
    have hA := asc_step h.asc hb h0 hS.2
    have hLe : (s.1.getD b []).length ≤ (blockK s.1 (insAt bl b)).length := nodup_sub_len _ _ (h.nd b) (fun x hx => by rw [blockK_mem, h.hl]; exact h.asc b hb x hx)
    have hsum := sumK_set s.1 b (blockK s.1 (insAt bl b)) hbl
    have g1 : sumK s.1 ≤ sumK (s.1.set b (blockK s.1 (insAt bl b))) := by omega
    have g2 : sumK s.1 < sumK (s.1.set b (blockK s.1 (insAt bl b))) := by omega
    refine ⟨⟨by rw [List.length_set]; exact h.hl, fun c => ?_, SubK_set h.sub b (blockK_sub h.sub _ (allR_mem hb)), hA.1, low_step h.low (fun x hx => (h0 x).1 hx) (fun c hc x hx => (hS.2 c hc x).1 hx)⟩, g1, fun _ => .inr g2, fun h2 => (by cases h2)⟩
    show ((s.1.set b (blockK s.1 (insAt bl b))).getD c []).Nodup
    rw [List.getD_eq_getElem?_getD, List.getElem?_set]
    by_cases e : b = c
    · rw [if_pos e, if_pos hbl]; exact blockK_nodup _ _
    · rw [if_neg e, ← List.getD_eq_getElem?_getD]; exact h.nd c
theorem KI.pass {bl : List (S85)} {kss : List (List Int)} (h : KI bl kss) : ∀ (m : Nat), m ≤ bl.length →
    KI bl (passK bl kss m).1 ∧ sumK kss ≤ sumK (passK bl kss m).1 ∧ ((passK bl kss m).2 = true → sumK kss < sumK (passK bl kss m).1) ∧ ((passK bl kss m).2 = false → (passK bl kss m).1 = kss ∧ ∀ b, b < m → (blockK kss (insAt bl b)).length = (kss.getD b []).length)
  | 0, _ => ⟨h, Nat.le_refl _, fun h2 => (by cases h2), fun _ => ⟨rfl, fun b hb => absurd hb (Nat.not_lt_zero _)⟩⟩
  | m + 1, hm => by
    obtain ⟨h1, h2, h3, h4⟩ := KI.pass h m (by omega)
    obtain ⟨g1, g2, g3, g4⟩ := h1.step (b := m) (by omega)
    rw [passK_succ]
    refine ⟨g1, by omega, fun hh => ?_, fun hh => ?_⟩
    · rcases g3 hh with h5 | h5
      · have := h3 h5; omega
      · omega
    · obtain ⟨e1, e2, e3⟩ := g4 hh
      obtain ⟨e4, e5⟩ := h4 e2
      rw [e4] at e3
      refine ⟨e1.trans e4, fun b hb => ?_⟩
      rcases Nat.lt_or_ge b m with hb2 | hb2
      · exact e5 b hb2
      · obtain rfl : b = m := by omega
        exact e3
theorem nodup_sub_eq {a b : List Int} (ha : a.Nodup) (hs : ∀ x ∈ a, x ∈ b) (hl : b.length ≤ a.length) : ∀ x ∈ b, x ∈ a := fun x hx => by
  by_cases hxa : x ∈ a
  · exact hxa
  · have h1 : (x :: a).Nodup := List.nodup_cons.2 ⟨hxa, ha⟩
    have h2 := nodup_sub_len (x :: a) b h1 (fun y hy => by rcases List.mem_cons.1 hy with rfl | hy; exact hx; exact hs y hy)
    rw [List.length_cons] at h2
    omega
theorem loopK_ends (bl : List (S85)) : ∀ (d : Nat) (kss : List (List Int)), KI bl kss → bl.length * (allR bl).length - sumK kss ≤ d → ∃ r, loopK bl (d + 1) kss = some r ∧ KI bl r ∧ Fix bl (SK r) := by
  intro d
  induction d with
  | zero =>
    intro kss h hd
    obtain ⟨h1, h2, h3, h4⟩ := h.pass bl.length (Nat.le_refl _)
    have hle := sumK_le h1
    have hf : (passK bl kss bl.length).2 = false := by
      cases hp : (passK bl kss bl.length).2 with
      | false => rfl
      | true => have := h3 hp; omega
    obtain ⟨e1, e2⟩ := h4 hf
    refine ⟨kss, ?_, h, fun b hb x => ⟨h.asc b hb x, fun hx => nodup_sub_eq (h.nd b) (fun y hy => by rw [blockK_mem, h.hl]; exact h.asc b hb y hy) (by rw [e2 b hb]; exact Nat.le_refl _) x (by rw [blockK_mem, h.hl]; exact hx)⟩⟩
    rw [loopK, if_neg (by rw [hf]; simp), e1]
  | succ d ih =>
    intro kss h hd
    obtain ⟨h1, h2, h3, h4⟩ := h.pass bl.length (Nat.le_refl _)
    have hle := sumK_le h1
    cases hp : (passK bl kss bl.length).2 with
    | false =>
      obtain ⟨e1, e2⟩ := h4 hp
      refine ⟨kss, ?_, h, fun b hb x => ⟨h.asc b hb x, fun hx => nodup_sub_eq (h.nd b) (fun y hy => by rw [blockK_mem, h.hl]; exact h.asc b hb y hy) (by rw [e2 b hb]; exact Nat.le_refl _) x (by rw [blockK_mem, h.hl]; exact hx)⟩⟩
      rw [loopK, if_neg (by rw [hp]; simp), e1]
    | true =>
      have := h3 hp
      obtain ⟨r, hr, hk, hx⟩ := ih _ h1 (by omega)
      exact ⟨r, by rw [loopK, if_pos hp]; exact hr, hk, hx⟩
theorem KI.start (bl : List (S85)) : KI bl (List.replicate bl.length []) := by
  have h0 : ∀ b, (List.replicate bl.length ([] : List Int)).getD b [] = [] := fun b => by rw [List.getD_eq_getElem?_getD, List.getElem?_replicate]; split <;> rfl
  refine ⟨by simp, fun b => (by rw [h0]; exact List.nodup_nil), fun b x hx => (by rw [h0] at hx; cases hx), fun b hb x hx => ?_, fun x T hT b hb hx => ?_⟩
  · unfold SK at hx; rw [h0] at hx; cases hx
  · unfold SK at hx; rw [h0] at hx; cases hx
/-- impl's loop comes to an end, at the least closed sets. -/
theorem loopK_lfp (bl : List (S85)) : ∃ (K : Nat) (r : List (List Int)), (∀ k, K ≤ k → loopK bl k (List.replicate bl.length []) = some r) ∧ KI bl r ∧ Fix bl (SK r) := by
  obtain ⟨r, hr, hk, hx⟩ := loopK_ends bl _ _ (KI.start bl) (Nat.le_refl _)
  refine ⟨bl.length * (allR bl).length - sumK (List.replicate bl.length []) + 1, r, fun k hk2 => ?_, hk, hx⟩
  obtain ⟨d, rfl⟩ := Nat.exists_eq_add_of_le hk2
  clear hk2
  induction d with
  | zero => exact hr
  | succ d ih => exact loopK_mono bl _ _ r ih
end Go.Proofs.Ythegbhfoleiegaa.All

/- Plain laws: what an instruction reads, in both programs. -/
namespace Go.Proofs.Ythegbhfoleiegaa.All
open Go.RowKit Go.Proofs.YthegbhfoleiegaaW.PrintWords Go.Proofs.YthegbhfoleiegaaW.PrintLast Go.Proofs.YthegbhfoleiegaaW.PrintMore
set_option linter.unusedVariables false
set_option linter.unusedSimpArgs false
def posI (x : Int) : Bool := decide (0 ≤ x)
theorem rd_natL (l : List Int) (j : Nat) (h : j < l.length) : rd l (j : Int) = l[j] := by simp [rd, List.getElem?_eq_getElem h]
theorem implReads_loop (y : List Int) (hy : y.length ≤ 2000000) : ∀ (d i : Nat) (acc : List Int), i + d = y.length → acc.length ≤ i → Ev (fun k => impl_Reads.l0 k acc y (y.length : Int) (i : Int)) (acc ++ (y.drop i).filter posI)
  | 0, i, acc, h, ha => by
    refine Ev.succ ?_
    simp only [impl_Reads.l0]
    refine Ev.neg (by omega) (Ev.some ?_)
    rw [List.drop_eq_nil_of_le (by omega)]
    simp
  | d + 1, i, acc, h, ha => by
    have hi : i < y.length := by omega
    refine Ev.succ ?_
    simp only [impl_Reads.l0]
    refine Ev.pos (by omega) (Ev.pos (by omega) (Ev.pos (by omega) ?_))
    rw [rd_natL y i hi, wrap64_nat (by omega), List.drop_eq_getElem_cons hi]
    by_cases hx : 0 ≤ y[i]
    · refine Ev.pos hx (Ev.pos (by omega) ?_)
      have h1 := implReads_loop y hy d (i + 1) (acc ++ [y[i]]) (by omega) (by simp; omega)
      rw [List.filter_cons_of_pos (by simp [posI, hx])]
      rw [List.append_assoc] at h1
      exact h1
    · refine Ev.neg hx ?_
      have h1 := implReads_loop y hy d (i + 1) acc (by omega) (by omega)
      rw [List.filter_cons_of_neg (by simp [posI, hx])]
      exact h1
theorem specReads_loop (y : List Int) (a b c d2 e f : Int) (s : ByteArray) (hy : y.length ≤ 2000000) : ∀ (d i : Nat) (acc : List Int), i + d = y.length → acc.length ≤ i + 3 → Ev (fun k => spec_Reads.l0 k acc (i : Int) a b c d2 e f s y) (acc ++ (y.drop i).filter posI)
  | 0, i, acc, h, ha => by
    refine Ev.succ ?_
    simp only [spec_Reads.l0]
    refine Ev.neg (by omega) (Ev.some ?_)
    rw [List.drop_eq_nil_of_le (by omega)]
    simp
  | d + 1, i, acc, h, ha => by
    have hi : i < y.length := by omega
    refine Ev.succ ?_
    simp only [spec_Reads.l0]
    refine Ev.pos (by omega) (Ev.pos (by omega) ?_)
    rw [rd_natL y i hi, wrap64_nat (by omega), List.drop_eq_getElem_cons hi]
    by_cases hx : 0 ≤ y[i]
    · refine Ev.pos hx (Ev.pos (by omega) ?_)
      have h1 := specReads_loop y a b c d2 e f s hy d (i + 1) (acc ++ [y[i]]) (by omega) (by simp; omega)
      rw [List.filter_cons_of_pos (by simp [posI, hx])]
      rw [List.append_assoc] at h1
      exact h1
    · refine Ev.neg hx ?_
      have h1 := specReads_loop y a b c d2 e f s hy d (i + 1) acc (by omega) (by omega)
      rw [List.filter_cons_of_neg (by simp [posI, hx])]
      exact h1
theorem readsL_eq (i : S87) : readsL i = ([i.f2, i.f3, if i.f0 = 20 ∨ i.f0 = 21 ∨ i.f0 = 46 then -1 else i.f4] ++ i.f7).filter posI := rfl
theorem implReads_f (i : S87) (h : i.f7.length ≤ 1048576) : Ev (fun k => impl_Reads.f k i.f0 i.f1 i.f2 i.f3 i.f4 i.f5 i.f6 i.f7) (readsL i) := by
  have key : ∀ (c : Int) (b : Bool), (if b = true then (-1 : Int) else i.f4) = c → Ev (fun k => impl_Reads.j0 k ([] : List Int) i.f4 b i.f0 i.f1 i.f2 i.f3 i.f4 i.f5 i.f6 i.f7) (([i.f2, i.f3, c] ++ i.f7).filter posI) := by
    intro c b hc
    have h1 := implReads_loop ([i.f2, i.f3, c] ++ i.f7) (by simp; omega) _ 0 [] (Nat.zero_add _) (by simp)
    rw [List.drop_zero, List.nil_append] at h1
    refine Ev.succ ?_
    simp only [impl_Reads.j0]
    cases b with
    | true =>
      obtain rfl : (-1 : Int) = c := hc
      refine Ev.pos rfl (Ev.succ ?_)
      simp only [impl_Reads.j1]
      exact Ev.some_bind (Ev.pos (by simp; omega) (Ev.some_bind h1))
    | false =>
      obtain rfl : i.f4 = c := hc
      refine Ev.neg (by simp) (Ev.succ ?_)
      simp only [impl_Reads.j1]
      exact Ev.some_bind (Ev.pos (by simp; omega) (Ev.some_bind h1))
  rw [readsL_eq]
  unfold impl_Reads.f
  by_cases h1 : i.f0 = 20
  · refine Ev.pos h1 (key _ true ?_)
    rw [if_pos rfl, if_pos (.inl h1)]
  · refine Ev.neg h1 ?_
    by_cases h2 : i.f0 = 21
    · refine Ev.pos h2 (key _ true ?_)
      rw [if_pos rfl, if_pos (.inr (.inl h2))]
    · refine Ev.neg h2 (key _ _ ?_)
      by_cases h3 : i.f0 = 46
      · rw [if_pos (by simp [h3]), if_pos (.inr (.inr h3))]
      · rw [if_neg (by simp [h3]), if_neg (by simp [h1, h2, h3])]
theorem specReads_f (i : S87) (h : i.f7.length ≤ 1048576) : Ev (fun k => spec_Reads.f k i.f0 i.f1 i.f2 i.f3 i.f4 i.f5 i.f6 i.f7) (readsL i) := by
  have k3 : ∀ acc : List Int, acc.length ≤ 3 → Ev (fun k => spec_Reads.j3 k acc i.f0 i.f1 i.f2 i.f3 i.f4 i.f5 i.f6 i.f7) (acc ++ i.f7.filter posI) := fun acc ha => by
    refine Ev.succ ?_
    simp only [spec_Reads.j3]
    exact specReads_loop i.f7 i.f0 i.f1 i.f2 i.f3 i.f4 i.f5 i.f6 (by omega) _ 0 acc (Nat.zero_add _) (by omega)
  have k2 : ∀ (acc : List Int) (b : Bool), acc.length ≤ 2 → Ev (fun k => spec_Reads.j2 k acc b i.f0 i.f1 i.f2 i.f3 i.f4 i.f5 i.f6 i.f7) ((if b = true then acc ++ [i.f4] else acc) ++ i.f7.filter posI) := fun acc b ha => by
    refine Ev.succ ?_
    simp only [spec_Reads.j2]
    cases b with
    | true => exact Ev.pos rfl (Ev.pos (by omega) (k3 _ (by simp; omega)))
    | false => exact Ev.neg (by simp) (k3 _ (by omega))
  have k1 : ∀ acc : List Int, acc.length ≤ 2 → Ev (fun k => spec_Reads.j1 k acc i.f0 i.f1 i.f2 i.f3 i.f4 i.f5 i.f6 i.f7) ((if 0 ≤ i.f4 ∧ ¬ (i.f0 = 20 ∨ i.f0 = 21 ∨ i.f0 = 46) then acc ++ [i.f4] else acc) ++ i.f7.filter posI) := fun acc ha => by
    refine Ev.succ ?_
    simp only [spec_Reads.j1]
    by_cases h0 : 0 ≤ i.f4
    · refine Ev.pos h0 ?_
      by_cases h1 : i.f0 = 20
      · refine Ev.pos h1 ?_
        have := k2 acc false ha
        rw [if_neg (by simp [h1])]
        simpa using this
      · refine Ev.neg h1 ?_
        by_cases h2 : i.f0 = 21
        · refine Ev.pos h2 ?_
          have := k2 acc false ha
          rw [if_neg (by simp [h2])]
          simpa using this
        · refine Ev.neg h2 ?_
          have := k2 acc (i.f0 != 46) ha
          by_cases h3 : i.f0 = 46
          · rw [if_neg (by simp [h3])]
            rw [if_neg (by simp [h3])] at this
            exact this
          · rw [if_pos ⟨h0, by simp [h1, h2, h3]⟩]
            rw [if_pos (by simp [h3])] at this
            exact this
    · refine Ev.neg h0 ?_
      have := k2 acc false ha
      rw [if_neg (by simp [h0])]
      simpa using this
  have k0 : ∀ acc : List Int, acc.length ≤ 1 → Ev (fun k => spec_Reads.j0 k acc i.f0 i.f1 i.f2 i.f3 i.f4 i.f5 i.f6 i.f7) ((if 0 ≤ i.f4 ∧ ¬ (i.f0 = 20 ∨ i.f0 = 21 ∨ i.f0 = 46) then (if 0 ≤ i.f3 then acc ++ [i.f3] else acc) ++ [i.f4] else (if 0 ≤ i.f3 then acc ++ [i.f3] else acc)) ++ i.f7.filter posI) := fun acc ha => by
    refine Ev.succ ?_
    simp only [spec_Reads.j0]
    by_cases h0 : 0 ≤ i.f3
    · refine Ev.pos h0 (Ev.pos (by omega) ?_)
      have := k1 (acc ++ [i.f3]) (by simp; omega)
      rw [if_pos h0]
      exact this
    · refine Ev.neg h0 ?_
      have := k1 acc (by omega)
      rw [if_neg h0]
      exact this
  have hfin : ∀ acc : List Int, acc = (if 0 ≤ i.f2 then [i.f2] else []) → (if 0 ≤ i.f4 ∧ ¬ (i.f0 = 20 ∨ i.f0 = 21 ∨ i.f0 = 46) then (if 0 ≤ i.f3 then acc ++ [i.f3] else acc) ++ [i.f4] else (if 0 ≤ i.f3 then acc ++ [i.f3] else acc)) ++ i.f7.filter posI = readsL i := fun acc ha => by
    subst ha
    rw [readsL_eq, List.filter_append]
    congr 1
    by_cases h2 : 0 ≤ i.f2 <;> by_cases h3 : 0 ≤ i.f3 <;> by_cases h4 : 0 ≤ i.f4 <;> by_cases h5 : (i.f0 = 20 ∨ i.f0 = 21 ∨ i.f0 = 46) <;> simp [posI, h2, h3, h4, h5]
  unfold spec_Reads.f
  refine Ev.some_bind ?_
  by_cases h2 : 0 ≤ i.f2
  · refine Ev.pos h2 (Ev.pos (by simp) ?_)
    have h1 := k0 ([] ++ [i.f2]) (by simp)
    rw [hfin _ (by rw [if_pos h2]; rfl)] at h1
    exact h1
  · refine Ev.neg h2 ?_
    have h1 := k0 [] (by simp)
    rw [hfin _ (by rw [if_neg h2])] at h1
    exact h1
end Go.Proofs.Ythegbhfoleiegaa.All

/- Plain laws: spec.l18Live comes to the least closed sets of the registers that it looks at. -/
namespace Go.Proofs.Ythegbhfoleiegaa.All
open Go.RowKit Go.Proofs.YthegbhfoleiegaaW.PrintWords Go.Proofs.YthegbhfoleiegaaW.PrintLast Go.Proofs.YthegbhfoleiegaaW.PrintMore
set_option linter.unusedVariables false
set_option linter.unusedSimpArgs false
theorem readsL_pos {i : S87} {x : Int} (h : x ∈ readsL i) : 0 ≤ x := by unfold readsL at h; simpa using (List.mem_filter.1 h).2
theorem readsL_len (i : S87) : (readsL i).length ≤ i.f7.length + 3 := by
  unfold readsL
  refine Nat.le_trans (List.length_filter_le _ _) ?_
  simp
theorem insAt_eq {bl : List (S85)} {b : Nat} : (rd_T85 bl (b : Int)).f0 = insAt bl b := rfl
theorem insAt_b {bl : List (S85)} (hb : bVBlockS bl) {b : Nat} (h : b < bl.length) : (insAt bl b).length ≤ 1048576 ∧ ∀ i ∈ insAt bl b, i.f7.length ≤ 1048576 := by
  have e : insAt bl b = (bl[b]).f0 := by unfold insAt rd_T85; rw [Int.toNat_natCast, List.getD_eq_getElem?_getD, List.getElem?_eq_getElem h]; rfl
  rw [e]
  exact hb.2 _ (List.getElem_mem h)
theorem rdIns {is : List (S87)} {j : Nat} (h : j < is.length) : rd_T87 is (j : Int) = is[j] := by unfold rd_T87; rw [Int.toNat_natCast, List.getD_eq_getElem?_getD, List.getElem?_eq_getElem h]; rfl
/-! the greatest register that is named -/
theorem most_l2 (a0 : Int) (l1 : List Int) (bl : List (S85)) (b i : Int) (ls : List Int) (hl : ls.length ≤ 2000000) : ∀ (d j : Nat) (n : Int), j + d = ls.length → 0 ≤ n → n ≤ 1048576 →
    ∃ n' : Int, n ≤ n' ∧ n' ≤ 1048576 ∧ (∀ x ∈ ls.drop j, x < 1048576 → x < n') ∧ ∀ r, Ev (fun k => spec_l18Most.l1 k n' b (wrap64 (i + 1)) a0 l1 bl) r → Ev (fun k => spec_l18Most.l2 k n b i ls (j : Int) a0 l1 bl) r
  | 0, j, n, h, h0, h1 => by
    refine ⟨n, Int.le_refl _, h1, fun x hx => ?_, fun r hr => ?_⟩
    · rw [List.drop_eq_nil_of_le (by omega)] at hx; cases hx
    · refine Ev.succ ?_
      simp only [spec_l18Most.l2]
      exact Ev.neg (by omega) hr
  | d + 1, j, n, h, h0, h1 => by
    have hj : j < ls.length := by omega
    by_cases hx : ls[j] ≥ n ∧ ls[j] < 1048576
    · obtain ⟨n', g1, g2, g3, g4⟩ := most_l2 a0 l1 bl b i ls hl d (j + 1) (ls[j] + 1) (by omega) (by omega) (by omega)
      refine ⟨n', by omega, g2, fun x hm h9 => ?_, fun r hr => ?_⟩
      · rw [List.drop_eq_getElem_cons hj] at hm
        rcases List.mem_cons.1 hm with rfl | hm
        · omega
        · exact g3 x hm h9
      · refine Ev.succ ?_
        simp only [spec_l18Most.l2]
        rw [rd_natL ls j hj, wrap64_nat (by omega), wrap64_id (by omega) (by omega)]
        exact Ev.pos (by omega) (Ev.pos (by omega) (Ev.pos hx.1 (Ev.pos hx.2 (g4 r hr))))
    · obtain ⟨n', g1, g2, g3, g4⟩ := most_l2 a0 l1 bl b i ls hl d (j + 1) n (by omega) h0 h1
      refine ⟨n', g1, g2, fun x hm h9 => ?_, fun r hr => ?_⟩
      · rw [List.drop_eq_getElem_cons hj] at hm
        rcases List.mem_cons.1 hm with rfl | hm
        · omega
        · exact g3 x hm h9
      · refine Ev.succ ?_
        simp only [spec_l18Most.l2]
        rw [rd_natL ls j hj, wrap64_nat (by omega)]
        refine Ev.pos (by omega) (Ev.pos (by omega) ?_)
        by_cases h2 : ls[j] ≥ n
        · exact Ev.pos h2 (Ev.neg (by omega) (g4 r hr))
        · exact Ev.neg h2 (g4 r hr)
theorem most_l1 (a0 : Int) (l1 : List Int) {bl : List (S85)} (hb : bVBlockS bl) {b : Nat} (hbl : b < bl.length) : ∀ (d j : Nat) (n : Int), j + d = (insAt bl b).length → 0 ≤ n → n ≤ 1048576 →
    ∃ n' : Int, n ≤ n' ∧ n' ≤ 1048576 ∧ (∀ i ∈ (insAt bl b).drop j, ∀ x ∈ readsL i, x < 1048576 → x < n') ∧ ∀ r, Ev (fun k => spec_l18Most.l0 k n' ((b + 1 : Nat) : Int) a0 l1 bl) r → Ev (fun k => spec_l18Most.l1 k n (b : Int) (j : Int) a0 l1 bl) r
  | 0, j, n, h, h0, h1 => by
    have hi9 := (insAt_b hb hbl).1
    have hb9 := hb.1
    refine ⟨n, Int.le_refl _, h1, fun x hx => ?_, fun r hr => ?_⟩
    · rw [List.drop_eq_nil_of_le (by omega)] at hx; cases hx
    · refine Ev.succ ?_
      simp only [spec_l18Most.l1]
      rw [insAt_eq, wrap64_nat (by omega)]
      exact Ev.pos (by omega) (Ev.pos (by omega) (Ev.neg (by omega) hr))
  | d + 1, j, n, h, h0, h1 => by
    have hj : j < (insAt bl b).length := by omega
    obtain ⟨hi9, hi7⟩ := insAt_b hb hbl
    have h7 := hi7 _ (List.getElem_mem hj)
    have hrl := readsL_len (insAt bl b)[j]
    obtain ⟨m, q1, q2, q3, q4⟩ := most_l2 a0 l1 bl (b : Int) (j : Int) (readsL (insAt bl b)[j] ++ [((insAt bl b)[j]).f1]) (by simp; omega) _ 0 n (Nat.zero_add _) h0 h1
    obtain ⟨n', g1, g2, g3, g4⟩ := most_l1 a0 l1 hb hbl d (j + 1) m (by omega) (by omega) q2
    refine ⟨n', by omega, g2, fun i hm x hx h9 => ?_, fun r hr => ?_⟩
    · rw [List.drop_eq_getElem_cons hj] at hm
      rcases List.mem_cons.1 hm with rfl | hm
      · have := q3 x (by rw [List.drop_zero]; exact List.mem_append_left _ hx) h9
        omega
      · exact g3 i hm x hx h9
    · refine Ev.succ ?_
      simp only [spec_l18Most.l1]
      rw [insAt_eq, rdIns hj]
      refine Ev.pos (by omega) (Ev.pos (by omega) (Ev.pos (by omega) (Ev.pos (by omega) (Ev.bind (specReads_f _ h7) (Ev.some_bind (Ev.pos (by simp; omega) (q4 r ?_)))))))
      have := g4 r hr
      rw [wrap64_nat (by omega)]
      exact this
theorem most_l0 (a0 : Int) (l1 : List Int) {bl : List (S85)} (hb : bVBlockS bl) : ∀ (d b : Nat) (n : Int), b + d = bl.length → 0 ≤ n → n ≤ 1048576 →
    ∃ n' : Int, n ≤ n' ∧ n' ≤ 1048576 ∧ (∀ c, b ≤ c → c < bl.length → ∀ i ∈ insAt bl c, ∀ x ∈ readsL i, x < 1048576 → x < n') ∧ Ev (fun k => spec_l18Most.l0 k n (b : Int) a0 l1 bl) n'
  | 0, b, n, h, h0, h1 => by
    refine ⟨n, Int.le_refl _, h1, fun c h2 h3 => by omega, Ev.succ ?_⟩
    simp only [spec_l18Most.l0]
    exact Ev.neg (by omega) (Ev.now _)
  | d + 1, b, n, h, h0, h1 => by
    have hbl : b < bl.length := by omega
    obtain ⟨m, q1, q2, q3, q4⟩ := most_l1 a0 l1 hb hbl _ 0 n (Nat.zero_add _) h0 h1
    obtain ⟨n', g1, g2, g3, g4⟩ := most_l0 a0 l1 hb d (b + 1) m (by omega) (by omega) q2
    refine ⟨n', by omega, g2, fun c h2 h3 i hi x hx h9 => ?_, Ev.succ ?_⟩
    · by_cases e : c = b
      · subst e
        have := q3 i (by rw [List.drop_zero]; exact hi) x hx h9
        omega
      · exact g3 c (by omega) h3 i hi x hx h9
    · simp only [spec_l18Most.l0]
      exact Ev.pos (by omega) (q4 n' g4)
theorem most_f (a0 : Int) (l1 : List Int) {bl : List (S85)} (hb : bVBlockS bl) : ∃ n : Nat, n ≤ 1048576 ∧ (∀ x ∈ allR bl, x < 1048576 → x < (n : Int)) ∧ Ev (fun k => spec_l18Most.f k a0 l1 bl) (n : Int) := by
  obtain ⟨n', g1, g2, g3, g4⟩ := most_l0 a0 l1 hb _ 0 0 (Nat.zero_add _) (Int.le_refl _) (by omega)
  obtain ⟨n, rfl⟩ := Int.eq_ofNat_of_zero_le g1
  refine ⟨n, by omega, fun x hx h9 => ?_, g4⟩
  unfold allR at hx
  obtain ⟨b, hb1, hb2⟩ := List.mem_flatMap.1 hx
  obtain ⟨i, hi1, hi2⟩ := List.mem_flatMap.1 hb2
  obtain ⟨c, hc, rfl⟩ := List.getElem_of_mem hb1
  have e : insAt bl c = (bl[c]).f0 := by unfold insAt rd_T85; rw [Int.toNat_natCast, List.getD_eq_getElem?_getD, List.getElem?_eq_getElem hc]; rfl
  exact g3 c (Nat.zero_le _) hc i (by rw [e]; exact hi1) x hi2 h9
/-! what is live ahead of an instruction -/
theorem getD_set (l : List Bool) (i r : Nat) (v : Bool) (h : i < l.length) : (l.set i v).getD r false = if i = r then v else l.getD r false := by
  rw [List.getD_eq_getElem?_getD, List.getElem?_set]
  by_cases e : i = r
  · rw [if_pos e, if_pos e, if_pos h]; rfl
  · rw [if_neg e, if_neg e, ← List.getD_eq_getElem?_getD]
theorem ahead_l0 (ls : List Int) (hp : ∀ x ∈ ls, 0 ≤ x) (hl : ls.length ≤ 2000000) : ∀ (d j : Nat) (s : List Bool), j + d = ls.length →
    ∃ R : List Bool, R.length = s.length ∧ (∀ r, r < s.length → R.getD r false = (s.getD r false || decide ((r : Int) ∈ ls.drop j))) ∧ Ev (fun k => spec_l18Ahead.l0 k s ls (j : Int)) R
  | 0, j, s, h => by
    refine ⟨s, rfl, fun r hr => by rw [List.drop_eq_nil_of_le (by omega)]; simp, Ev.succ ?_⟩
    simp only [spec_l18Ahead.l0]
    exact Ev.neg (by omega) (Ev.now _)
  | d + 1, j, s, h => by
    have hj : j < ls.length := by omega
    have h0 := hp _ (List.getElem_mem hj)
    by_cases hx : ls[j] < (s.length : Int)
    · obtain ⟨R, g1, g2, g3⟩ := ahead_l0 ls hp hl d (j + 1) (s.set (ls[j]).toNat true) (by omega)
      rw [List.length_set] at g1 g2
      refine ⟨R, g1, fun r hr => ?_, Ev.succ ?_⟩
      · rw [g2 r hr, getD_set _ _ _ _ (by omega), List.drop_eq_getElem_cons hj]
        by_cases e : (ls[j]).toNat = r
        · rw [if_pos e]
          have : (r : Int) ∈ ls[j] :: ls.drop (j + 1) := List.mem_cons.2 (.inl (by omega))
          rw [decide_eq_true this]; simp
        · rw [if_neg e]
          have : ((r : Int) ∈ ls[j] :: ls.drop (j + 1)) ↔ (r : Int) ∈ ls.drop (j + 1) := by
            rw [List.mem_cons]
            exact ⟨fun h => h.elim (fun h => by omega) id, .inr⟩
          rw [decide_eq_decide.2 this]
      · simp only [spec_l18Ahead.l0]
        rw [rd_natL ls j hj, wrap64_nat (by omega)]
        exact Ev.pos (by omega) (Ev.pos (by omega) (Ev.pos hx (Ev.pos h0 g3)))
    · obtain ⟨R, g1, g2, g3⟩ := ahead_l0 ls hp hl d (j + 1) s (by omega)
      refine ⟨R, g1, fun r hr => ?_, Ev.succ ?_⟩
      · rw [g2 r hr, List.drop_eq_getElem_cons hj]
        have : ((r : Int) ∈ ls[j] :: ls.drop (j + 1)) ↔ (r : Int) ∈ ls.drop (j + 1) := by
          rw [List.mem_cons]
          exact ⟨fun h => h.elim (fun h => by omega) id, .inr⟩
        rw [decide_eq_decide.2 this]
      · simp only [spec_l18Ahead.l0]
        rw [rd_natL ls j hj, wrap64_nat (by omega)]
        exact Ev.pos (by omega) (Ev.pos (by omega) (Ev.neg hx g3))
theorem specAhead_f (i : S87) (s : List Bool) (hi : i.f7.length ≤ 1048576) (hs : s.length ≤ 1048576) :
    ∃ R : List Bool, R.length = s.length ∧ (∀ r, r < s.length → (R.getD r false = true ↔ (r : Int) ∈ readsL i ∨ ((r : Int) ≠ i.f1 ∧ s.getD r false = true))) ∧ Ev (fun k => spec_l18Ahead.f k i.f0 i.f1 i.f2 i.f3 i.f4 i.f5 i.f6 i.f7 s) R := by
  have hrl := readsL_len i
  have hj1 : ∀ t : List Bool, t.length = s.length → ∃ R : List Bool, R.length = s.length ∧ (∀ r, r < s.length → R.getD r false = (t.getD r false || decide ((r : Int) ∈ readsL i))) ∧ Ev (fun k => spec_l18Ahead.j1 k t i.f0 i.f1 i.f2 i.f3 i.f4 i.f5 i.f6 i.f7) R := fun t ht => by
    obtain ⟨R, g1, g2, g3⟩ := ahead_l0 (readsL i) (fun x hx => readsL_pos hx) (by omega) _ 0 t (Nat.zero_add _)
    refine ⟨R, g1.trans ht, fun r hr => by rw [g2 r (by omega), List.drop_zero], Ev.succ ?_⟩
    simp only [spec_l18Ahead.j1]
    exact Ev.bind (specReads_f i hi) g3
  unfold spec_l18Ahead.f
  by_cases h1 : i.f1 ≥ 0 ∧ i.f1 < (s.length : Int)
  · obtain ⟨R, g1, g2, g3⟩ := hj1 (s.set i.f1.toNat false) (by simp)
    refine ⟨R, g1, fun r hr => ?_, Ev.some_bind (Ev.pos (by simp; omega) (Ev.some_bind (Ev.pos h1.1 (Ev.succ ?_))))⟩
    · rw [g2 r hr, getD_set _ _ _ _ (by omega)]
      by_cases e : i.f1.toNat = r
      · rw [if_pos e]
        simp
        intro h2
        exact absurd (by omega : (r : Int) = i.f1) h2
      · rw [if_neg e]
        simp
        constructor
        · rintro (h | h)
          · exact .inr ⟨by omega, h⟩
          · exact .inl h
        · rintro (h | h)
          · exact .inr h
          · exact .inl h.2
    · simp only [spec_l18Ahead.j0, List.nil_append]
      exact Ev.pos (by simp; exact h1.2) (Ev.pos h1.1 (Ev.pos h1.2 g3))
  · obtain ⟨R, g1, g2, g3⟩ := hj1 s rfl
    have hne : ∀ r, r < s.length → (r : Int) ≠ i.f1 := fun r hr e => h1 ⟨by omega, by omega⟩
    have hR : ∀ r, r < s.length → (R.getD r false = true ↔ (r : Int) ∈ readsL i ∨ ((r : Int) ≠ i.f1 ∧ s.getD r false = true)) := fun r hr => by
      rw [g2 r hr]
      have := hne r hr
      simp [this]
      exact Or.comm
    refine ⟨R, g1, hR, Ev.some_bind (Ev.pos (by simp; omega) (Ev.some_bind ?_))⟩
    by_cases h2 : i.f1 ≥ 0
    · refine Ev.pos h2 (Ev.succ ?_)
      simp only [spec_l18Ahead.j0, List.nil_append]
      exact Ev.neg (by simp; omega) g3
    · refine Ev.neg h2 (Ev.succ ?_)
      simp only [spec_l18Ahead.j0, List.nil_append]
      exact Ev.neg (by simp) g3
theorem goes_f (i : S87) : spec_l18Goes.f i.f0 i.f1 i.f2 i.f3 i.f4 i.f5 i.f6 i.f7 = some (!stopsB i.f0) := by
  unfold spec_l18Goes.f stopsB impl_stops.f
  by_cases h1 : i.f0 = 23
  · rw [if_pos h1, if_pos h1]; rfl
  · rw [if_neg h1, if_neg h1]
    by_cases h2 : i.f0 = 62
    · rw [if_pos h2, if_pos h2]; rfl
    · rw [if_neg h2, if_neg h2]; rfl
theorem jumps_f (a0 : Int) (l1 : List Int) (bl : List (S85)) (i : S87) : spec_l18Jumps.f a0 l1 bl i.f0 i.f1 i.f2 i.f3 i.f4 i.f5 i.f6 i.f7 = some (if jumpsB i.f0 = true ∧ 0 ≤ i.f5 ∧ i.f5 < (bl.length : Int) then i.f5 else -1) := by
  have key : (if i.f5 < 0 then (some (-1)) else (if i.f5 ≥ (bl.length : Int) then (some (-1)) else (some i.f5))) = some (if 0 ≤ i.f5 ∧ i.f5 < (bl.length : Int) then i.f5 else -1) := by
    by_cases h1 : i.f5 < 0
    · rw [if_pos h1, if_neg (by omega)]
    · rw [if_neg h1]
      by_cases h2 : i.f5 ≥ (bl.length : Int)
      · rw [if_pos h2, if_neg (by omega)]
      · rw [if_neg h2, if_pos (by omega)]
  unfold spec_l18Jumps.f jumpsB impl_jumps.f
  by_cases h1 : i.f0 = 23
  · rw [if_pos h1, if_pos h1, key]; simp
  · rw [if_neg h1, if_neg h1]
    by_cases h2 : i.f0 = 24
    · rw [if_pos h2, if_pos h2, key]; simp
    · rw [if_neg h2, if_neg h2]
      by_cases h3 : i.f0 = 25
      · rw [if_pos h3, key]; simp [h3]
      · rw [if_neg h3]; simp [h3]
/-! behind an instruction, and a block -/
def SB (live : List (List Bool)) (b : Nat) (x : Int) : Prop := 0 ≤ x ∧ (live.getD b []).getD x.toNat false = true
theorem behind_f (k : Nat) (a0 : Int) (l1 : List Int) {bl : List (S85)} (live : List (List Bool)) {n b j : Nat} (hb : b < bl.length) (hj : j < (insAt bl b).length) (nx : List Bool) (hn : nx.length = n) (hn9 : n ≤ 1048576) (hL : live.length = bl.length) (hR : ∀ c, c < bl.length → (live.getD c []).length = n) :
    ∃ R : List Bool, R.length = n ∧ (∀ r, r < n → (R.getD r false = true ↔ (stopsB (insAt bl b)[j].f0 = false ∧ nx.getD r false = true) ∨ (jumpsB (insAt bl b)[j].f0 = true ∧ 0 ≤ (insAt bl b)[j].f5 ∧ (insAt bl b)[j].f5 < (bl.length : Int) ∧ SB live (insAt bl b)[j].f5.toNat (r : Int)))) ∧
      spec_l18Behind.f k a0 l1 bl live (b : Int) (j : Int) nx = some R := by
  obtain ⟨i, hi⟩ : ∃ i, i = (insAt bl b)[j] := ⟨_, rfl⟩
  have e1 : rd_T87 (rd_T85 bl (b : Int)).f0 (j : Int) = i := by rw [insAt_eq, rdIns hj, hi]
  rw [← hi]
  have hf : spec_l18Behind.f k a0 l1 bl live (b : Int) (j : Int) nx = (if 0 ≤ (if jumpsB i.f0 = true ∧ 0 ≤ i.f5 ∧ i.f5 < (bl.length : Int) then i.f5 else -1) then if (if jumpsB i.f0 = true ∧ 0 ≤ i.f5 ∧ i.f5 < (bl.length : Int) then i.f5 else -1) < (live.length : Int) then if nx.length ≤ (live.getD (if jumpsB i.f0 = true ∧ 0 ≤ i.f5 ∧ i.f5 < (bl.length : Int) then i.f5 else -1).toNat []).length then some (orTo nx.length (if (!stopsB i.f0) = true then nx else List.replicate nx.length false) (live.getD (if jumpsB i.f0 = true ∧ 0 ≤ i.f5 ∧ i.f5 < (bl.length : Int) then i.f5 else -1).toNat [])) else none else none else some (if (!stopsB i.f0) = true then nx else List.replicate nx.length false)) := by
    unfold spec_l18Behind.f
    rw [if_pos (by omega), if_pos (by omega), if_pos (by omega), if_pos (by rw [insAt_eq]; omega), if_pos (by omega), e1, goes_f, jumps_f]
    rfl
  rw [hf]
  have hnow : ∀ r, r < n → ((if (!stopsB i.f0) = true then nx else List.replicate nx.length false).getD r false = true ↔ stopsB i.f0 = false ∧ nx.getD r false = true) := fun r hr => by
    cases hs : stopsB i.f0
    · simp
    · simp only [Bool.not_true, Bool.false_eq_true, if_false]
      rw [List.getD_eq_getElem?_getD, List.getElem?_replicate]
      simp
      split <;> rfl
  have hnl : (if (!stopsB i.f0) = true then nx else List.replicate nx.length false).length = n := by split <;> simp [hn]
  by_cases hj2 : jumpsB i.f0 = true ∧ 0 ≤ i.f5 ∧ i.f5 < (bl.length : Int)
  · have hrl := hR i.f5.toNat (by omega)
    rw [if_pos hj2, if_pos hj2.2.1, if_pos (by omega), if_pos (by omega)]
    refine ⟨_, by rw [orTo_len]; exact hnl, fun r hr => ?_, rfl⟩
    rw [orTo_getD _ _ _ r (by omega)]
    have hd : decide (r < nx.length) = true := decide_eq_true (by omega)
    rw [hd]
    unfold SB
    rw [Bool.or_eq_true, hnow r hr, Bool.true_and]
    simp [hj2.1, hj2.2.1, hj2.2.2]
  · rw [if_neg hj2, if_neg (by omega)]
    refine ⟨_, hnl, fun r hr => ?_, rfl⟩
    rw [hnow r hr]
    exact ⟨.inl, fun h => h.elim id (fun h => absurd ⟨h.1, h.2.1, h.2.2.1⟩ hj2)⟩
theorem block_l0 (a0 : Int) (l1 : List Int) {bl : List (S85)} (hbv : bVBlockS bl) (live : List (List Bool)) {n b : Nat} (hb : b < bl.length) (hn9 : n ≤ 1048576) (hL : live.length = bl.length) (hR : ∀ c, c < bl.length → (live.getD c []).length = n) : ∀ (j : Nat) (nx : List Bool), j ≤ (insAt bl b).length → nx.length = n →
    (∀ r, r < n → (nx.getD r false = true ↔ blockQ bl.length (SB live) ((insAt bl b).drop j) (r : Int))) →
    ∃ R : List Bool, R.length = n ∧ (∀ r, r < n → (R.getD r false = true ↔ blockQ bl.length (SB live) (insAt bl b) (r : Int))) ∧ Ev (fun k => spec_l18Block.l0 k live (b : Int) nx ((j : Int) - 1) a0 l1 bl) R
  | 0, nx, _, hn, hnx => by
    refine ⟨nx, hn, fun r hr => by rw [hnx r hr, List.drop_zero], Ev.succ ?_⟩
    simp only [spec_l18Block.l0]
    exact Ev.neg (by omega) (Ev.now _)
  | j + 1, nx, hj, hn, hnx => by
    have hj2 : j < (insAt bl b).length := by omega
    obtain ⟨hi9, hi7⟩ := insAt_b hbv hb
    have h7 := hi7 _ (List.getElem_mem hj2)
    obtain ⟨R1, g1, g2, g3⟩ := behind_f 0 a0 l1 live hb hj2 nx hn hn9 hL hR
    obtain ⟨R2, q1, q2, q3⟩ := specAhead_f (insAt bl b)[j] R1 h7 (by omega)
    have hdr : (insAt bl b).drop j = (insAt bl b)[j] :: (insAt bl b).drop (j + 1) := List.drop_eq_getElem_cons hj2
    have hR2 : ∀ r, r < n → (R2.getD r false = true ↔ blockQ bl.length (SB live) ((insAt bl b).drop j) (r : Int)) := fun r hr => by
      rw [q2 r (by omega), g2 r hr, hdr, hnx r hr]
      exact Iff.rfl
    obtain ⟨R, p1, p2, p3⟩ := block_l0 a0 l1 hbv live hb hn9 hL hR j R2 (by omega) (by omega) hR2
    refine ⟨R, p1, p2, Ev.succ ?_⟩
    simp only [spec_l18Block.l0]
    have ej : ((j + 1 : Nat) : Int) - 1 = (j : Int) := by omega
    rw [ej, insAt_eq, rdIns hj2, wrap64_id (by omega) (by omega)]
    refine Ev.pos (by omega) (Ev.pos (by omega) (Ev.pos (by omega) (Ev.pos (by omega) (Ev.pos (by omega) (Ev.bind (⟨0, fun _ _ => g3⟩ : Ev (fun k => spec_l18Behind.f k a0 l1 bl live (b : Int) (j : Int) nx) R1) (Ev.bind q3 p3))))))
theorem specBlock_f (a0 : Int) (l1 : List Int) {bl : List (S85)} (hbv : bVBlockS bl) (live : List (List Bool)) {n b : Nat} (hb : b < bl.length) (hn9 : n ≤ 1048576) (hL : live.length = bl.length) (hR : ∀ c, c < bl.length → (live.getD c []).length = n) :
    ∃ R : List Bool, R.length = n ∧ (∀ r, r < n → (R.getD r false = true ↔ blockQ bl.length (SB live) (insAt bl b) (r : Int))) ∧ Ev (fun k => spec_l18Block.f k a0 l1 bl live (b : Int) (n : Int)) R := by
  obtain ⟨hi9, _⟩ := insAt_b hbv hb
  obtain ⟨R, p1, p2, p3⟩ := block_l0 a0 l1 hbv live hb hn9 hL hR (insAt bl b).length (List.replicate n false) (Nat.le_refl _) (by simp) (fun r hr => by
    rw [List.drop_length, List.getD_eq_getElem?_getD, List.getElem?_replicate]
    unfold blockQ
    simp
    split <;> rfl)
  refine ⟨R, p1, p2, ?_⟩
  unfold spec_l18Block.f
  rw [insAt_eq, wrap64_id (by omega) (by omega), Int.toNat_natCast]
  exact Ev.pos (by omega) (Ev.pos (by omega) (Ev.pos (by omega) (Ev.pos (by omega) p3)))
/-! the loop -/
theorem list_ext_B {a b : List Bool} (hl : a.length = b.length) (h : ∀ r, r < a.length → a.getD r false = b.getD r false) : a = b := list_ext_getD hl h
theorem count_le : ∀ (a b : List Bool), a.length = b.length → (∀ r, r < a.length → a.getD r false = true → b.getD r false = true) → a.count true ≤ b.count true ∧ (a ≠ b → a.count true < b.count true)
  | [], [], _, _ => ⟨Nat.le_refl _, fun h => absurd rfl h⟩
  | [], _ :: _, h, _ => by simp at h
  | _ :: _, [], h, _ => by simp at h
  | x :: a, y :: b, hl, h => by
    obtain ⟨h1, h2⟩ := count_le a b (by simpa using hl) (fun r hr => by have := h (r + 1) (by simp; omega); simpa using this)
    have h0 := h 0 (by simp)
    simp only [List.getD_cons_zero] at h0
    cases x <;> cases y
    · exact ⟨by simpa using h1, fun hne => by have : a ≠ b := fun e => hne (by rw [e]); simpa using h2 this⟩
    · exact ⟨by simp; omega, fun _ => by simp; omega⟩
    · simp at h0
    · exact ⟨by simpa using h1, fun hne => by have : a ≠ b := fun e => hne (by rw [e]); simpa using h2 this⟩
def cntB (live : List (List Bool)) : Nat := (live.map (List.count true)).sum
theorem cntB_set (live : List (List Bool)) (b : Nat) (s : List Bool) (hb : b < live.length) : cntB (live.set b s) + (live.getD b []).count true = cntB live + s.count true := by
  unfold cntB
  rw [List.map_set]
  have h := sum_set (live.map (List.count true)) b (s.count true) (by simpa using hb)
  have e : (live.map (List.count true)).getD b 0 = (live.getD b []).count true := by
    rw [List.getD_eq_getElem?_getD, List.getElem?_map, List.getD_eq_getElem?_getD, List.getElem?_eq_getElem hb]; rfl
  rw [e] at h
  exact h
structure BI (bl : List (S85)) (n : Nat) (live : List (List Bool)) : Prop where
  hl : live.length = bl.length
  hr : ∀ c, c < bl.length → (live.getD c []).length = n
  asc : Asc bl (SB live)
  low : Low bl (SB live)
theorem cntB_le {bl : List (S85)} {n : Nat} {live : List (List Bool)} (h : BI bl n live) : cntB live ≤ bl.length * n := by
  have : ∀ (l : List (List Bool)) (m : Nat), (∀ k ∈ l, k.length ≤ m) → cntB l ≤ l.length * m := by
    intro l m hl
    unfold cntB
    induction l with
    | nil => simp
    | cons a l ih =>
      have h1 := hl a (by simp)
      have h2 := ih (fun k hk => hl k (by simp [hk]))
      have h3 := List.count_le_length (a := true) (l := a)
      simp only [List.map_cons, List.sum_cons, List.length_cons]
      rw [Nat.add_mul]
      omega
  rw [← h.hl]
  refine this live _ (fun k hk => ?_)
  obtain ⟨i, hi, rfl⟩ := List.getElem_of_mem hk
  have e : live.getD i [] = live[i] := by rw [List.getD_eq_getElem?_getD, List.getElem?_eq_getElem hi]; rfl
  rw [← e]
  exact Nat.le_of_eq (h.hr i (by rw [← h.hl]; exact hi))
theorem SB_range {bl : List (S85)} {n : Nat} {live : List (List Bool)} (hr : ∀ c, c < bl.length → (live.getD c []).length = n) {b : Nat} (hb : b < bl.length) {x : Int} (h : SB live b x) : ∃ r : Nat, x = (r : Int) ∧ r < n := by
  obtain ⟨h0, h1⟩ := h
  refine ⟨x.toNat, by omega, ?_⟩
  rcases Nat.lt_or_ge x.toNat n with h2 | h2
  · exact h2
  · rw [List.getD_eq_getElem?_getD, List.getElem?_eq_none (by rw [hr b hb]; exact h2)] at h1
    cases h1
theorem BI.step {bl : List (S85)} {n : Nat} {live : List (List Bool)} (h : BI bl n live) {b : Nat} (hb : b < bl.length) {now : List Bool} (hn : now.length = n) (hq : ∀ r, r < n → (now.getD r false = true ↔ blockQ bl.length (SB live) (insAt bl b) (r : Int))) :
    BI bl n (live.set b now) ∧ cntB live ≤ cntB (live.set b now) ∧ (now ≠ live.getD b [] → cntB live < cntB (live.set b now)) ∧ (now = live.getD b [] → live.set b now = live ∧ ∀ r, r < n → (SB live b (r : Int) ↔ blockQ bl.length (SB live) (insAt bl b) (r : Int))) := by
  have hbl : b < live.length := by rw [h.hl]; exact hb
  have gS : ∀ c, (live.set b now).getD c [] = if b = c then now else live.getD c [] := fun c => by
    rw [List.getD_eq_getElem?_getD, List.getElem?_set]
    by_cases e : b = c
    · rw [if_pos e, if_pos e, if_pos hbl]; rfl
    · rw [if_neg e, if_neg e, ← List.getD_eq_getElem?_getD]
  have hr' : ∀ c, c < bl.length → ((live.set b now).getD c []).length = n := fun c hc => by
    rw [gS]; split
    · exact hn
    · exact h.hr c hc
  have s1 : ∀ c, c ≠ b → ∀ x, SB (live.set b now) c x ↔ SB live c x := fun c hc x => by unfold SB; rw [gS, if_neg (fun e => hc e.symm)]
  have s0 : ∀ r : Nat, SB (live.set b now) b (r : Int) ↔ now.getD r false = true := fun r => by
    unfold SB
    rw [gS, if_pos rfl, Int.toNat_natCast]
    exact ⟨fun h => h.2, fun h => ⟨Int.natCast_nonneg r, h⟩⟩
  have f0 : ∀ x, SB (live.set b now) b x → blockQ bl.length (SB live) (insAt bl b) x := fun x hx => by
    obtain ⟨r, rfl, hr⟩ := SB_range hr' hb hx
    exact (hq r hr).1 ((s0 r).1 hx)
  have up0 : ∀ x, SB live b x → SB (live.set b now) b x := fun x hx => by
    obtain ⟨r, rfl, hr⟩ := SB_range h.hr hb hx
    exact (s0 r).2 ((hq r hr).2 (h.asc b hb _ hx))
  have up : ∀ c, c < bl.length → ∀ x, SB live c x → SB (live.set b now) c x := fun c hc x hx => by
    by_cases e : c = b
    · subst e; exact up0 x hx
    · exact (s1 c e x).2 hx
  have hcl := count_le (live.getD b []) now (by rw [h.hr b hb, hn]) (fun r hr hx => by
    rw [h.hr b hb] at hr
    exact (s0 r).1 (up0 (r : Int) ⟨Int.natCast_nonneg r, by rw [Int.toNat_natCast]; exact hx⟩))
  have hsum := cntB_set live b now hbl
  refine ⟨⟨by rw [List.length_set]; exact h.hl, hr', fun c hc x hx => ?_, low_step h.low f0 (fun c hc x hx => (s1 c hc x).1 hx)⟩, by omega, fun hne => by have := hcl.2 (fun e => hne e.symm); omega, fun he => ?_⟩
  · by_cases e : c = b
    · subst e
      exact blockQ_mono (fun d hd => up d hd x) _ (f0 x hx)
    · exact blockQ_mono (fun d hd => up d hd x) _ (h.asc c hc x ((s1 c e x).1 hx))
  · refine ⟨?_, fun r hr => ?_⟩
    · rw [he, List.getD_eq_getElem?_getD, List.getElem?_eq_getElem hbl]
      exact List.set_getElem_self hbl
    · rw [← hq r hr]
      unfold SB
      rw [he, Int.toNat_natCast]
      exact ⟨fun h => h.2, fun h => ⟨Int.natCast_nonneg r, h⟩⟩
def FixN (bl : List (S85)) (n : Nat) (live : List (List Bool)) (b : Nat) : Prop := ∀ r, r < n → (SB live b (r : Int) ↔ blockQ bl.length (SB live) (insAt bl b) (r : Int))
theorem rdL12 (live : List (List Bool)) (b : Nat) : rd_L12 live (b : Int) = live.getD b [] := rfl
theorem live_l3 (a0 : Int) (l1 : List Int) {bl : List (S85)} (hbv : bVBlockS bl) {n b : Nat} {live : List (List Bool)} (hl : live.length = bl.length) (hr : ∀ c, c < bl.length → (live.getD c []).length = n) (hn9 : n ≤ 1048576) (hb : b < bl.length) (now : List Bool) (hn : now.length = n) : ∀ (d r : Nat) (again : Bool), r + d = n →
    ∃ ag : Bool, (ag = true ↔ again = true ∨ ∃ q, r ≤ q ∧ q < n ∧ now.getD q false ≠ (live.getD b []).getD q false) ∧ ∀ res, Ev (fun k => spec_l18Live.l2 k (n : Int) (live.set b now) ag ((b : Int) - 1) a0 l1 bl) res → Ev (fun k => spec_l18Live.l3 k (n : Int) live again (b : Int) now (r : Int) a0 l1 bl) res
  | 0, r, again, h => by
    have hb9 := hbv.1
    refine ⟨again, ⟨.inl, fun h2 => h2.elim id (fun ⟨q, q1, q2, _⟩ => by omega)⟩, fun res hres => Ev.succ ?_⟩
    simp only [spec_l18Live.l3]
    rw [show wrap64 ((b : Int) - 1) = (b : Int) - 1 from wrap64_id (by omega) (by omega), Int.toNat_natCast]
    exact Ev.neg (by omega) (Ev.pos (by omega) (Ev.pos (by omega) hres))
  | d + 1, r, again, h => by
    have hb9 := hbv.1
    have hrl := hr b hb
    have er : wrap64 ((r : Int) + 1) = ((r + 1 : Nat) : Int) := wrap64_nat (by omega)
    by_cases hx : now.getD r false = (live.getD b []).getD r false
    · obtain ⟨ag, g1, g2⟩ := live_l3 a0 l1 hbv hl hr hn9 hb now hn d (r + 1) again (by omega)
      refine ⟨ag, ?_, fun res hres => Ev.succ ?_⟩
      · rw [g1]
        refine or_congr Iff.rfl ⟨fun ⟨q, q1, q2, q3⟩ => ⟨q, by omega, q2, q3⟩, fun ⟨q, q1, q2, q3⟩ => ⟨q, ?_, q2, q3⟩⟩
        rcases Nat.lt_or_ge r q with h1 | h1
        · exact h1
        · obtain rfl : q = r := by omega
          exact absurd hx q3
      · simp only [spec_l18Live.l3]
        rw [er]
        refine Ev.pos (by omega) (Ev.pos (by omega) (Ev.pos (by omega) (Ev.pos (by omega) (Ev.pos (by omega) (Ev.pos (by rw [rdL12]; omega) (Ev.neg ?_ (g2 res hres)))))))
        show ¬ ((now.getD r false != (live.getD b []).getD r false) = true)
        rw [hx]
        simp
    · obtain ⟨ag, g1, g2⟩ := live_l3 a0 l1 hbv hl hr hn9 hb now hn d (r + 1) true (by omega)
      refine ⟨ag, ?_, fun res hres => Ev.succ ?_⟩
      · rw [g1]
        exact ⟨fun _ => .inr ⟨r, Nat.le_refl _, by omega, hx⟩, fun _ => .inl rfl⟩
      · simp only [spec_l18Live.l3]
        rw [er]
        refine Ev.pos (by omega) (Ev.pos (by omega) (Ev.pos (by omega) (Ev.pos (by omega) (Ev.pos (by omega) (Ev.pos (by rw [rdL12]; omega) (Ev.pos ?_ (g2 res hres)))))))
        show (now.getD r false != (live.getD b []).getD r false) = true
        exact bne_iff_ne.2 hx
theorem live_l2 (a0 : Int) (l1 : List Int) {bl : List (S85)} (hbv : bVBlockS bl) {n : Nat} (hn9 : n ≤ 1048576) : ∀ (j : Nat) (live : List (List Bool)) (again : Bool), j ≤ bl.length → BI bl n live →
    ∃ (live' : List (List Bool)) (ag : Bool), BI bl n live' ∧ cntB live ≤ cntB live' ∧ (ag = true → again = true ∨ cntB live < cntB live') ∧ (ag = false → again = false ∧ live' = live ∧ ∀ b, b < j → FixN bl n live b) ∧
      ∀ res, Ev (fun k => spec_l18Live.l1 k (n : Int) live' ag a0 l1 bl) res → Ev (fun k => spec_l18Live.l2 k (n : Int) live again ((j : Int) - 1) a0 l1 bl) res
  | 0, live, again, _, hB => by
    refine ⟨live, again, hB, Nat.le_refl _, .inl, fun h => ⟨h, rfl, fun b hb => absurd hb (Nat.not_lt_zero _)⟩, fun res hres => Ev.succ ?_⟩
    simp only [spec_l18Live.l2]
    exact Ev.neg (by omega) hres
  | j + 1, live, again, hj, hB => by
    have hjb : j < bl.length := by omega
    obtain ⟨R, g1, g2, g3⟩ := specBlock_f a0 l1 hbv live hjb hn9 hB.hl hB.hr
    obtain ⟨ag1, q1, q2⟩ := live_l3 a0 l1 hbv hB.hl hB.hr hn9 hjb R g1 n 0 again (Nat.zero_add _)
    obtain ⟨s1, s2, s3, s4⟩ := hB.step hjb g1 g2
    obtain ⟨live', ag, p1, p2, p3, p4, p5⟩ := live_l2 a0 l1 hbv hn9 j (live.set j R) ag1 (by omega) s1
    have hdiff : (∃ q, 0 ≤ q ∧ q < n ∧ R.getD q false ≠ (live.getD j []).getD q false) ↔ R ≠ live.getD j [] := by
      refine ⟨fun ⟨q, _, _, h⟩ e => h (by rw [e]), fun hne => ?_⟩
      refine Classical.byContradiction fun hno => hne (list_ext_B (by rw [g1, hB.hr j hjb]) (fun r hr => Classical.byContradiction fun hx => hno ⟨r, Nat.zero_le _, by omega, hx⟩))
    refine ⟨live', ag, p1, by omega, fun h => ?_, fun h => ?_, fun res hres => Ev.succ ?_⟩
    · rcases p3 h with h1 | h1
      · rcases q1.1 h1 with h2 | h2
        · exact .inl h2
        · have := s3 (hdiff.1 h2)
          exact .inr (by omega)
      · exact .inr (by omega)
    · obtain ⟨h1, h2, h3⟩ := p4 h
      have hno : ¬ (again = true ∨ ∃ q, 0 ≤ q ∧ q < n ∧ R.getD q false ≠ (live.getD j []).getD q false) := fun hh => by
        have := q1.2 hh
        rw [h1] at this
        cases this
      have hag : again = false := by cases again; rfl; exact absurd (.inl rfl) hno
      have heq : R = live.getD j [] := Classical.byContradiction fun hne => hno (.inr (hdiff.2 hne))
      obtain ⟨e1, e2⟩ := s4 heq
      rw [e1] at h2 h3
      refine ⟨hag, h2, fun b hb => ?_⟩
      rcases Nat.lt_or_ge b j with hb2 | hb2
      · exact h3 b hb2
      · obtain rfl : b = j := by omega
        exact e2
    · simp only [spec_l18Live.l2]
      have ej : ((j + 1 : Nat) : Int) - 1 = (j : Int) := by omega
      rw [ej]
      exact Ev.pos (by omega) (Ev.bind g3 (q2 res (p5 res hres)))
theorem live_l1 (a0 : Int) (l1 : List Int) {bl : List (S85)} (hbv : bVBlockS bl) {n : Nat} (hn9 : n ≤ 1048576) : ∀ (d : Nat) (live : List (List Bool)), BI bl n live → bl.length * n - cntB live ≤ d →
    ∃ L, BI bl n L ∧ (∀ b, b < bl.length → FixN bl n L b) ∧ Ev (fun k => spec_l18Live.l1 k (n : Int) live true a0 l1 bl) L := by
  have hb9 := hbv.1
  intro d
  induction d with
  | zero =>
    intro live hB hd
    obtain ⟨live', ag, p1, p2, p3, p4, p5⟩ := live_l2 a0 l1 hbv hn9 bl.length live false (Nat.le_refl _) hB
    have hle := cntB_le p1
    have hag : ag = false := by
      cases ag with
      | false => rfl
      | true => have := (p3 rfl).resolve_left (by simp); omega
    obtain ⟨_, e1, e2⟩ := p4 hag
    refine ⟨live, hB, e2, Ev.succ ?_⟩
    simp only [spec_l18Live.l1]
    rw [wrap64_id (by omega) (by omega)]
    refine Ev.pos trivial (p5 live ?_)
    rw [e1, hag]
    refine Ev.succ ?_
    simp only [spec_l18Live.l1]
    exact Ev.neg (by simp) (Ev.now _)
  | succ d ih =>
    intro live hB hd
    obtain ⟨live', ag, p1, p2, p3, p4, p5⟩ := live_l2 a0 l1 hbv hn9 bl.length live false (Nat.le_refl _) hB
    have hle := cntB_le p1
    cases ag with
    | false =>
      obtain ⟨_, e1, e2⟩ := p4 rfl
      refine ⟨live, hB, e2, Ev.succ ?_⟩
      simp only [spec_l18Live.l1]
      rw [wrap64_id (by omega) (by omega)]
      refine Ev.pos trivial (p5 live ?_)
      rw [e1]
      refine Ev.succ ?_
      simp only [spec_l18Live.l1]
      exact Ev.neg (by simp) (Ev.now _)
    | true =>
      have h1 := (p3 rfl).resolve_left (by simp)
      obtain ⟨L, q1, q2, q3⟩ := ih live' p1 (by omega)
      refine ⟨L, q1, q2, Ev.succ ?_⟩
      simp only [spec_l18Live.l1]
      rw [wrap64_id (by omega) (by omega)]
      exact Ev.pos trivial (p5 L q3)
theorem BI.start (bl : List (S85)) (n : Nat) : BI bl n (List.replicate bl.length (List.replicate n false)) := by
  have h0 : ∀ b, b < bl.length → (List.replicate bl.length (List.replicate n false)).getD b [] = List.replicate n false := fun b hb => by rw [List.getD_eq_getElem?_getD, List.getElem?_replicate, if_pos hb]; rfl
  have hS : ∀ b, b < bl.length → ∀ x, ¬ SB (List.replicate bl.length (List.replicate n false)) b x := fun b hb x h => by
    unfold SB at h
    rw [h0 b hb, List.getD_eq_getElem?_getD, List.getElem?_replicate] at h
    obtain ⟨_, h⟩ := h
    split at h <;> cases h
  exact ⟨by simp, fun c hc => by rw [h0 c hc]; simp, fun b hb x hx => absurd hx (hS b hb x), fun x T _ b hb hx => absurd hx (hS b hb x)⟩
theorem live_l0 (a0 : Int) (l1 : List Int) {bl : List (S85)} (hbv : bVBlockS bl) {n : Nat} (hn9 : n ≤ 1048576) (res : List (List Bool)) (hres : Ev (fun k => spec_l18Live.l1 k (n : Int) (List.replicate bl.length (List.replicate n false)) true a0 l1 bl) res) : ∀ (d b : Nat), b + d = bl.length →
    Ev (fun k => spec_l18Live.l0 k (n : Int) (List.replicate b (List.replicate n false)) (b : Int) a0 l1 bl) res
  | 0, b, h => by
    obtain rfl : b = bl.length := by omega
    refine Ev.succ ?_
    simp only [spec_l18Live.l0]
    exact Ev.neg (by omega) hres
  | d + 1, b, h => by
    have hb9 := hbv.1
    have h1 := live_l0 a0 l1 hbv hn9 res hres d (b + 1) (by omega)
    refine Ev.succ ?_
    simp only [spec_l18Live.l0]
    rw [wrap64_nat (by omega), Int.toNat_natCast, ← List.replicate_succ']
    exact Ev.pos (by omega) (Ev.pos (by omega) (Ev.pos (by omega) (Ev.pos (by simp; omega) h1)))
theorem specLive_f (a0 : Int) (l1 : List Int) {bl : List (S85)} (hbv : bVBlockS bl) : ∃ (n : Nat) (L : List (List Bool)), n ≤ 1048576 ∧ (∀ x ∈ allR bl, x < 1048576 → x < (n : Int)) ∧ BI bl n L ∧ (∀ b, b < bl.length → FixN bl n L b) ∧ Ev (fun k => spec_l18Most.f k a0 l1 bl) (n : Int) ∧ Ev (fun k => spec_l18Live.f k a0 l1 bl) L := by
  obtain ⟨n, hn9, hx, hm⟩ := most_f a0 l1 hbv
  obtain ⟨L, h1, h2, h3⟩ := live_l1 a0 l1 hbv hn9 _ _ (BI.start bl n) (Nat.le_refl _)
  refine ⟨n, L, hn9, hx, h1, h2, hm, ?_⟩
  unfold spec_l18Live.f
  exact Ev.bind hm (live_l0 a0 l1 hbv hn9 L h3 _ 0 (Nat.zero_add _))
/-- Both programs hold the same registers live. -/
theorem live_same {bl : List (S85)} {n : Nat} {L : List (List Bool)} {kss : List (List Int)} (hB : BI bl n L) (hF : ∀ b, b < bl.length → FixN bl n L b) (hK : KI bl kss) (hX : Fix bl (SK kss)) (hx : ∀ x ∈ allR bl, x < 1048576 → x < (n : Int)) (hn9 : n ≤ 1048576) {b : Nat} (hb : b < bl.length) (x : Int) :
    (x ∈ kss.getD b [] ∧ x < 1048576) ↔ SB L b x := by
  constructor
  · rintro ⟨h1, h2⟩
    have hr := hx x (hK.sub b x h1) h2
    have h0 : 0 ≤ x := by
      have hm := hK.sub b x h1
      unfold allR at hm
      obtain ⟨c, _, hc⟩ := List.mem_flatMap.1 hm
      obtain ⟨i, _, hi⟩ := List.mem_flatMap.1 hc
      exact readsL_pos hi
    obtain ⟨r, rfl⟩ := Int.eq_ofNat_of_zero_le h0
    exact hK.low (r : Int) (SB L) (fun c hc hq => (hF c hc r (by omega)).2 hq) b hb h1
  · intro h
    obtain ⟨r, rfl, hr⟩ := SB_range hB.hr hb h
    exact ⟨hB.low (r : Int) (SK kss) (fun c hc hq => (hX c hc _).2 hq) b hb h, by omega⟩
end Go.Proofs.Ythegbhfoleiegaa.All

/- Plain laws of selected code: sizes, and what liveOf asks of it. -/
namespace Go.Proofs.Ythegbhfoleiegaa.All
open Go.RowKit Go.Proofs.YthegbhfoleiegaaW.PrintWords Go.Proofs.YthegbhfoleiegaaW.PrintLast Go.Proofs.YthegbhfoleiegaaW.PrintMore
set_option linter.unusedVariables false
set_option linter.unusedSimpArgs false
theorem sum_linV {α : Type} {f g : α → Nat} {a b : Nat} (h : ∀ x, f x ≤ a + b * g x) : ∀ xs : List α, (xs.map f).sum ≤ a * xs.length + b * (xs.map g).sum
  | [] => by simp
  | x :: xs => by
    have h1 := h x
    have h2 := sum_linV h xs
    simp only [List.map_cons, List.sum_cons, List.length_cons]
    rw [Nat.mul_add, Nat.mul_add, Nat.mul_one]
    omega
theorem lVBlockS_ok {l : List S165} (h : l.length ≤ 9223372036854775807 ∧ ∀ y ∈ l, ok165 y) : lVBlockS l := by
  refine ⟨h.1, fun b hb => ?_⟩
  have h1 := h.2 b hb
  unfold ok165 at h1
  refine ⟨h1.1, fun x hx => ?_⟩
  have h2 := h1.2 x hx
  unfold ok224 at h2
  obtain ⟨_, _, _, _, _, _, h6, h7⟩ := h2
  exact ⟨h6, h7.1⟩
theorem lenR (x : S224) : (readsL (iVIns x)).length ≤ 3 + 1 * sVIns x := by
  have := readsL_len (iVIns x)
  have e : (iVIns x).f7.length = x.f7.length := rfl
  unfold sVIns
  omega
theorem lenRS (x : S165) : ((iVBlock x).f0.flatMap readsL).length ≤ 0 + 3 * sVBlock x := by
  have e : ((iVBlock x).f0.flatMap readsL).length = (x.f0.map (fun i => (readsL (iVIns i)).length)).sum := by
    show ((x.f0.map iVIns).flatMap readsL).length = _
    rw [List.length_flatMap, List.map_map]
    rfl
  have := sum_linV lenR x.f0
  rw [e]
  unfold sVBlock sVInsS
  omega
theorem lenAllR (l : List S165) : (allR (l.map iVBlock)).length ≤ 3 * sVBlockS l := by
  have e : (allR (l.map iVBlock)).length = (l.map (fun b => ((iVBlock b).f0.flatMap readsL).length)).sum := by
    unfold allR
    rw [List.length_flatMap, List.map_map]
    rfl
  have := sum_linV lenRS l
  rw [e]
  unfold sVBlockS
  omega
theorem cntVIns (x : S224) : cnt_VIns (iVIns x) ≤ 7 + 1 * sVIns x := by
  have e : cntL_int64 (iVIns x).f7 = x.f7.length := rfl
  unfold cnt_VIns sVIns
  omega
theorem cntVBlock (x : S165) : cnt_VBlock (iVBlock x) ≤ 0 + 7 * sVBlock x := by
  have e : cnt_VBlock (iVBlock x) = (x.f0.map (fun s => cnt_VIns (iVIns s))).sum := by
    show cntL_VIns (x.f0.map iVIns) = _
    unfold cntL_VIns
    rw [List.map_map]
    rfl
  have := sum_linV cntVIns x.f0
  rw [e]
  unfold sVBlock sVInsS
  omega
theorem cntVBlockS (l : List S165) : cntL_VBlock (l.map iVBlock) ≤ 7 * sVBlockS l := by
  have e : cntL_VBlock (l.map iVBlock) = (l.map (fun s => cnt_VBlock (iVBlock s))).sum := by
    unfold cntL_VBlock
    rw [List.map_map]
    rfl
  have := sum_linV cntVBlock l
  rw [e]
  unfold sVBlockS
  omega
theorem ev_all {α β : Type} (f : Nat → α → Option β) (r : α → β) : ∀ l : List α, (∀ x ∈ l, Ev (fun k => f k x) (r x)) → ∃ K, ∀ k, K ≤ k → ∀ x ∈ l, f k x = some (r x)
  | [], _ => ⟨0, fun k _ x hx => by cases hx⟩
  | a :: l, h => by
    obtain ⟨K1, h1⟩ := h a (by simp)
    obtain ⟨K2, h2⟩ := ev_all f r l (fun x hx => h x (by simp [hx]))
    exact ⟨K1 + K2, fun k hk x hx => by
      rcases List.mem_cons.1 hx with rfl | hx
      · exact h1 k (by omega)
      · exact h2 k (by omega) x hx⟩
theorem okV_ev {l : List S165} (h : l.length ≤ 9223372036854775807 ∧ ∀ y ∈ l, ok165 y) (hs : sVBlockS l ≤ 1048576) : ∃ K, ∀ k, K ≤ k → okV k (l.map iVBlock) := by
  have hb := bVBlockS_of l hs
  obtain ⟨K, hK⟩ := ev_all (fun k (i : S87) => impl_Reads.f k i.f0 i.f1 i.f2 i.f3 i.f4 i.f5 i.f6 i.f7) readsL ((l.map iVBlock).flatMap fun b => b.f0) (fun i hi => by
    obtain ⟨b, hb1, hb2⟩ := List.mem_flatMap.1 hi
    exact implReads_f i ((hb.2 b hb1).2 i hb2))
  refine ⟨K, fun k hk => ⟨by have := hb.1; omega, fun b hb1 => ⟨by have := (hb.2 b hb1).1; omega, fun i hi => ⟨hK k hk i (List.mem_flatMap.2 ⟨b, hb1, hi⟩), fun x hx => ?_⟩⟩, by have := lenAllR l; omega⟩⟩
  obtain ⟨b0, hb0, rfl⟩ := List.mem_map.1 hb1
  obtain ⟨i0, hi0, rfl⟩ := List.mem_map.1 (show i ∈ b0.f0.map iVIns from hi)
  have h1 := h.2 b0 hb0
  unfold ok165 at h1
  have h2 := h1.2 i0 hi0
  unfold ok224 at h2
  obtain ⟨_, _, k2, k3, k4, _, _, k7⟩ := h2
  unfold readsL at hx
  obtain ⟨hx1, hx2⟩ := List.mem_filter.1 hx
  rw [List.mem_append] at hx1
  rcases hx1 with hx1 | hx1
  · have e : iVIns i0 = ⟨i0.f0, i0.f1, i0.f2, i0.f3, i0.f4, i0.f5, i0.f6, i0.f7⟩ := rfl
    rw [e] at hx1
    simp only [List.mem_cons, List.not_mem_nil, or_false] at hx1
    rcases hx1 with rfl | rfl | hx1
    · exact k2
    · exact k3
    · split at hx1
      · subst hx1; simp at hx2
      · subst hx1; exact k4
  · exact k7.2 x hx1
end Go.Proofs.Ythegbhfoleiegaa.All

/- FnExactLiveRegs: the printed law is true of all arguments. -/
namespace Go.Proofs.Ythegbhfoleiegaa.Pure
open Go.Proofs.Ythegbhfoleiegaa.All
open Go.RowKit Go.Proofs.YthegbhfoleiegaaW.PrintWords Go.Proofs.YthegbhfoleiegaaW.PrintLast Go.Proofs.YthegbhfoleiegaaW.PrintMore
set_option linter.unusedVariables false
set_option linter.unusedSimpArgs false
theorem onesL_mem (m : Nat) (s : List Bool) (x : Int) : x ∈ onesL m s ↔ ∃ r : Nat, r < m ∧ s.getD r false = true ∧ x = (r : Int) := by
  unfold onesL
  rw [List.mem_map]
  constructor
  · rintro ⟨r, hr, rfl⟩
    obtain ⟨h1, h2⟩ := List.mem_filter.1 hr
    exact ⟨r, List.mem_range.1 h1, h2, rfl⟩
  · rintro ⟨r, h1, h2, rfl⟩
    exact ⟨r, List.mem_filter.2 ⟨List.mem_range.2 h1, h2⟩, rfl⟩
theorem onesL_lt (m : Nat) (s : List Bool) : (onesL m s).Pairwise (· < ·) := by
  unfold onesL
  rw [List.pairwise_map]
  exact (List.pairwise_lt_range.filter _).imp (fun h => by omega)
theorem sorted_eq {ys zs : List Int} (hz : zs.Pairwise (· < ·)) (hp : ys.Perm zs) : sortI ys = zs := by
  unfold sortI
  refine List.Perm.eq_of_pairwise (le := fun x y => x ≤ y) (fun a b _ _ h1 h2 => Int.le_antisymm h1 h2) ?_ (hz.imp (fun h => Int.le_of_lt h)) ((List.mergeSort_perm _ _).trans hp)
  exact (List.pairwise_mergeSort (le := fun x y : Int => decide (x ≤ y)) (fun a b c h1 h2 => by simp at h1 h2 ⊢; omega) (fun a b => by simp; omega) ys).imp (fun h => by simpa using h)
theorem liveRegs_f (a0 : Int) (l1 : List Int) {l : List S165} (h : l.length ≤ 9223372036854775807 ∧ ∀ y ∈ l, ok165 y) (hs : sVBlockS l ≤ 1048576) (a1 : Int) :
    ∃ r : List Int, r.length ≤ 1048576 ∧ Ev (fun k => spec_LiveRegs.f k a0 l1 (l.map iVBlock) a1) r ∧ Ev (fun k => impl_LiveRegs.f k a0 l1 (l.map iVBlock) a1) r := by
  have hb := bVBlockS_of l hs
  by_cases c0 : a1 < 0
  · exact ⟨[], Nat.zero_le _, ⟨0, fun k _ => by unfold spec_LiveRegs.f; dsimp only; rw [if_pos c0]⟩, ⟨0, fun k _ => by unfold impl_LiveRegs.f; dsimp only; rw [if_pos c0]⟩⟩
  by_cases c1 : ((l.map iVBlock).length : Int) ≤ a1
  · exact ⟨[], Nat.zero_le _, ⟨0, fun k _ => by unfold spec_LiveRegs.f; dsimp only; rw [if_neg c0, if_pos c1]⟩, ⟨0, fun k _ => by unfold impl_LiveRegs.f; dsimp only; rw [if_neg c0, if_pos c1]⟩⟩
  obtain ⟨n, L, hn9, hx, hB, hF, _, hL⟩ := specLive_f a0 l1 hb
  obtain ⟨K, kss, hk, hK, hX⟩ := loopK_lfp (l.map iVBlock)
  obtain ⟨K2, hok⟩ := okV_ev h hs
  have hbl : a1.toNat < (l.map iVBlock).length := by omega
  have hrow := hB.hr a1.toNat hbl
  have hsame := fun x => live_same hB hF hK hX hx hn9 hbl x
  have hperm : ((kss.getD a1.toNat []).filter fun x => decide (x < 1048576)).Perm (onesL n (L.getD a1.toNat [])) := by
    refine (List.perm_ext_iff_of_nodup ((hK.nd _).filter _) ((onesL_lt _ _).imp (fun h => Int.ne_of_lt h))).2 (fun x => ?_)
    rw [List.mem_filter, onesL_mem]
    simp only [decide_eq_true_eq]
    rw [hsame x]
    unfold SB
    constructor
    · rintro ⟨h1, h2⟩
      refine ⟨x.toNat, ?_, h2, by omega⟩
      rcases Nat.lt_or_ge x.toNat n with h3 | h3
      · exact h3
      · rw [List.getD_eq_getElem?_getD, List.getElem?_eq_none (by rw [hrow]; exact h3)] at h2
        cases h2
    · rintro ⟨r, h1, h2, rfl⟩
      exact ⟨Int.natCast_nonneg r, h2⟩
  have heq := sorted_eq (onesL_lt n (L.getD a1.toNat [])) hperm
  refine ⟨onesL n (L.getD a1.toNat []), Nat.le_trans (onesL_len _ _) hn9, ?_, ⟨K + K2, fun k hk2 => ?_⟩⟩
  · obtain ⟨K3, h3⟩ := hL
    refine ⟨K3, fun k hk3 => ?_⟩
    unfold spec_LiveRegs.f
    dsimp only
    rw [if_neg c0, if_neg c1, show spec_l18Live.f k a0 l1 (l.map iVBlock) = some L from h3 k hk3]
    show (if a1 < (L.length : Int) then _ else none) = _
    rw [if_pos (by rw [hB.hl]; omega), if_pos (by rw [hrow]; omega), hrow]
  · unfold impl_LiveRegs.f
    dsimp only
    rw [if_neg c0, if_neg c1, if_pos (hok k (by omega)), hk k (by omega)]
    show some (sortI _) = _
    rw [heq]
theorem FnExactLiveRegs (a0_0 : Int) (l0_1 : List Int) (l0_2 : List S165) (a1 : Int) (_ : (Lit.int .i64 a0_0).wf = true) (h1 : l0_1.length ≤ 9223372036854775807 ∧ ∀ y ∈ l0_1, (Lit.int .i64 y).wf = true) (h2 : l0_2.length ≤ 9223372036854775807 ∧ ∀ y ∈ l0_2, ok165 y) (_ : (Lit.int .i64 a1).wf = true) :
    ∃ k, laws_FnExactLiveRegs.f k a0_0 l0_1 l0_2 a1 = some true := by
  refine Ev.rounds ?_
  unfold laws_FnExactLiveRegs.f
  refine Ev.bind (szVFunc_f a0_0 l0_1 l0_2 1048576 (by omega) (by omega) ⟨h1.1, lVBlockS_ok h2⟩) ?_
  by_cases hc : (sVFunc a0_0 l0_1 l0_2 : Int) ≤ 1048576
  · rw [if_pos hc]
    refine Ev.neg (by omega) ?_
    have hs : sVFunc a0_0 l0_1 l0_2 ≤ 1048576 := by omega
    have ht := toVFunc_f a0_0 l0_1 l0_2 hs
    have hb := bVFunc_of a0_0 l0_1 l0_2 hs
    have hs2 : sVBlockS l0_2 ≤ 1048576 := by unfold sVFunc at hs; omega
    have hcn := cntVBlockS l0_2
    have hlen : (l0_2.map iVBlock).length ≤ 1048576 := by rw [List.length_map]; unfold sVBlockS at hs2; omega
    obtain ⟨r, hr, hS, hI⟩ := liveRegs_f a0_0 l0_1 h2 hs2 a1
    have hE := eqInt64S_f r hr
    have hM := markInt64S_f r (by omega)
    have hH := heldInt64S_f r.length (by omega)
    have hF := eqVFunc_f a0_0 l0_1 (l0_2.map iVBlock) hb
    have hb1 := hb.1
    have hK : laws_markVFunc.f a0_0 l0_1 (l0_2.map iVBlock) 1 = some ((1 : Int) + (cntL_int64 l0_1 : Nat) + (cntL_VBlock (l0_2.map iVBlock) : Nat)) := by
      have e : cntL_int64 l0_1 = l0_1.length := rfl
      unfold laws_markVFunc.f
      rw [if_pos (by omega), if_pos (by omega)]
    refine Ev.bind ht (Ev.bind hS (Ev.bind ht (Ev.bind hI (Ev.bind hE (Ev.pos rfl (Ev.bind ht (Ev.bind hF (Ev.pos rfl (Ev.eq_bind hK (Ev.neg (by omega) (Ev.bind hE ?_)))))))))))
    refine Ev.succ ?_
    simp only [laws_FnExactLiveRegs.j0]
    refine Ev.neg (by simp) (Ev.bind hM (Ev.bind hH (Ev.neg (by omega) (Ev.pos rfl ?_))))
    refine Ev.bind ht (Ev.bind hI (Ev.bind hE (Ev.pos rfl (Ev.bind hH ?_))))
    exact Ev.neg (by omega) (Ev.pos rfl (Ev.now _))
  · rw [if_neg hc]
    exact Ev.pos (by omega) (Ev.now _)
end Go.Proofs.Ythegbhfoleiegaa.Pure

