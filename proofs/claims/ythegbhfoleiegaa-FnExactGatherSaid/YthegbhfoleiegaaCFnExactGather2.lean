/- Part 2 of the proof of FnExactGather: functions of the translation with what they return, and plain laws of these. Written by programs of this session over the kit's print, and by hand. -/
import Derived.Test.YthegbhfoleiegaaProg
import Derived.Test.YthegbhfoleiegaaCFnExactGatherWApart
import Derived.Test.YthegbhfoleiegaaCFnExactGatherWArr
import Derived.Test.YthegbhfoleiegaaCFnExactGatherWFoot
import Derived.Test.YthegbhfoleiegaaCFnExactGatherWGuard
import Derived.Test.YthegbhfoleiegaaCFnExactGatherWKept
import Derived.Test.YthegbhfoleiegaaCFnExactGatherWLast
import Derived.Test.YthegbhfoleiegaaCFnExactGatherWMore
import Derived.Test.YthegbhfoleiegaaCFnExactGatherWN
import Derived.Test.YthegbhfoleiegaaCFnExactGatherWNEv
import Derived.Test.YthegbhfoleiegaaCFnExactGatherWQPut
import Derived.Test.YthegbhfoleiegaaCFnExactGatherWRepsOne
import Derived.Test.YthegbhfoleiegaaCFnExactGatherWShare
import Derived.Test.YthegbhfoleiegaaCFnExactGatherWTab
import Derived.Test.YthegbhfoleiegaaCFnExactGatherWWords
import Derived.Test.YthegbhfoleiegaaCFnExactGatherWZeros
import Derived.Below
import Derived.Deep.Draws
import Derived.Deep.AppendLies
import Derived.Maps.AppendAt
import Derived.OwnWalk
import Derived.Laws.BytesArg
import Derived.Laws.MakeOwn
import Derived.Laws.OwnMore
import Derived.Deep.OwnRows
import Derived.Tactics
import Derived.Lib.ConvBytes
import Derived.Laws.Slices
import Derived.WalkKit
import Derived.KernelRfl
import Derived.RowKit3
import Derived.Deep.LoopGhost
import Derived.Deep.QuietTactic
import Derived.BigQuiet
import Derived.WideLaws
import Derived.Deep.DeepCutAuto
import Derived.Deep.CutBlock
import Derived.Deep.RegionHeld3
import Derived.Laws.Rows
import Derived.Lib.AppendStr
import Derived.ArgAppend
import Derived.Laws.IdiomCopy
import Derived.OrdersHeld
import Derived.Laws.BitsLemmas
import Derived.RowKit
import Derived.Maps.OwnSet
import Derived.Maps.OwnOps
import Derived.Maps.RangeWalk
import Derived.StringKeys
import Derived.Sort.KeysCollected
import Derived.Shelf.GgSortFunc.Whole
import Derived.Shelf.GgSortFunc.Tiny
import Derived.Sort.OwnSortedInts
import Derived.Lib.RowBridge
import Derived.Lib.SortBridge
import Derived.Sort.LotA
import Derived.Deep.RegionWith
import Derived.Deep.Slices
import Derived.ChangeArms
import Derived.Laws.ResultCell
import Derived.DeepKeys4
import Derived.ProofKit
import Derived.OpenShut
import Derived.ShutString
import Derived.ChangeOld
import Derived.SizedLaws
import Derived.Test.YthegbhfoleiegaaCFnExactGather1
namespace Go.Proofs.Ythegbhfoleiegaa.All
open Go.RowKit Go.Proofs.YthegbhfoleiegaaW.PrintWords Go.Proofs.YthegbhfoleiegaaW.PrintLast Go.Proofs.YthegbhfoleiegaaW.PrintMore
attribute [local go_sem] max2_int min2_int max_two min_two max_three min_three max_four min_four   -- for this text's walks alone
set_option linter.unusedVariables false
set_option linter.unusedSimpArgs false

def laws_eqSection.f (k : Nat) (a0_0 : ByteArray) (a0_1 : Int) (a0_2 : Int) (a0_3 : Int) (l0_4 : List Int) (a0_5 : Int) (l0_6 : List Int) (l0_7 : List (S132)) (a1_0 : ByteArray) (a1_1 : Int) (a1_2 : Int) (a1_3 : Int) (l1_4 : List Int) (a1_5 : Int) (l1_6 : List Int) (l1_7 : List (S132)) : Option (Bool) := if a0_0.toList = a1_0.toList then (if a0_1 = a1_1 then (if a0_2 = a1_2 then (if a0_3 = a1_3 then ((laws_eqInt64S.f k l0_4 l1_4).bind fun t797 => (if t797 = true then (if a0_5 = a1_5 then ((laws_eqByteS.f k l0_6 l1_6).bind fun t798 => (if t798 = true then ((laws_eqRelocS.f k l0_7 l1_7).bind fun t799 => (if t799 = true then (some true) else (some false))) else (some false))) else (some false)) else (some false))) else (some false)) else (some false)) else (some false)) else (some false)
set_option maxHeartbeats 8000000 in
set_option maxRecDepth 100000 in
theorem laws_eqSection.calls (k : Nat) (a0_0 : ByteArray) (a0_1 : Int) (a0_2 : Int) (a0_3 : Int) (A0_4 : Option Addr) (c0_4 : Nat) (l0_4 : List Int) (a0_5 : Int) (A0_6 : Option Addr) (c0_6 : Nat) (l0_6 : List Int) (A0_7 : Option Addr) (c0_7 : Nat) (l0_7 : List (S132)) (a1_0 : ByteArray) (a1_1 : Int) (a1_2 : Int) (a1_3 : Int) (A1_4 : Option Addr) (c1_4 : Nat) (l1_4 : List Int) (a1_5 : Int) (A1_6 : Option Addr) (c1_6 : Nat) (l1_6 : List Int) (A1_7 : Option Addr) (c1_7 : Nat) (l1_7 : List (S132)) (r : Bool) (w : World) (hr0_4 : Kd.C (Kd.int .i64) w A0_4 l0_4.length l0_4) (hc0_4 : l0_4.length ≤ c0_4) (hr0_6 : Kd.C (Kd.int .u8) w A0_6 l0_6.length l0_6) (hc0_6 : l0_6.length ≤ c0_6) (hr0_7 : Kd.C k132 w A0_7 l0_7.length l0_7) (hc0_7 : l0_7.length ≤ c0_7) (hr1_4 : Kd.C (Kd.int .i64) w A1_4 l1_4.length l1_4) (hc1_4 : l1_4.length ≤ c1_4) (hr1_6 : Kd.C (Kd.int .u8) w A1_6 l1_6.length l1_6) (hc1_6 : l1_6.length ≤ c1_6) (hr1_7 : Kd.C k132 w A1_7 l1_7.length l1_7) (hc1_7 : l1_7.length ≤ c1_7) (h : laws_eqSection.f k a0_0 a0_1 a0_2 a0_3 l0_4 a0_5 l0_6 l0_7 a1_0 a1_1 a1_2 a1_3 l1_4 a1_5 l1_6 l1_7 = some r) :
 Calls Try.prog 146 #[.agg #[.string a0_0, .int .i64 a0_1, .int .i64 a0_2, .int .i64 a0_3, .slice A0_4 l0_4.length c0_4, .int .i64 a0_5, .slice A0_6 l0_6.length c0_6, .slice A0_7 l0_7.length c0_7], .agg #[.string a1_0, .int .i64 a1_1, .int .i64 a1_2, .int .i64 a1_3, .slice A1_4 l1_4.length c1_4, .int .i64 a1_5, .slice A1_6 l1_6.length c1_6, .slice A1_7 l1_7.length c1_7]] w fun e w' => e = .returned (.bool r) ∧ Below w.heap.size w w' := by
 have hu130 := Try.underlying130
 have HR0_4 := Aside0.mk hr0_4
 have HC0_4 := Aside0.mk hc0_4
 clear hr0_4 hc0_4
 have HR0_6 := Aside0.mk hr0_6
 have HC0_6 := Aside0.mk hc0_6
 clear hr0_6 hc0_6
 have HR0_7 := Aside0.mk hr0_7
 have HC0_7 := Aside0.mk hc0_7
 clear hr0_7 hc0_7
 have HR1_4 := Aside0.mk hr1_4
 have HC1_4 := Aside0.mk hc1_4
 clear hr1_4 hc1_4
 have HR1_6 := Aside0.mk hr1_6
 have HC1_6 := Aside0.mk hc1_6
 clear hr1_6 hc1_6
 have HR1_7 := Aside0.mk hr1_7
 have HC1_7 := Aside0.mk hc1_7
 clear hr1_7 hc1_7
 have HB := Aside0.mk (Below.refl w.heap.size w)
 have H : (if a0_0.toList = a1_0.toList then (if a0_1 = a1_1 then (if a0_2 = a1_2 then (if a0_3 = a1_3 then ((laws_eqInt64S.f k l0_4 l1_4).bind fun t797 => (if t797 = true then (if a0_5 = a1_5 then ((laws_eqByteS.f k l0_6 l1_6).bind fun t798 => (if t798 = true then ((laws_eqRelocS.f k l0_7 l1_7).bind fun t799 => (if t799 = true then (some true) else (some false))) else (some false))) else (some false)) else (some false))) else (some false)) else (some false)) else (some false)) else (some false)) = some r := h
 clear h
 by_cases c3 : a0_0.toList = a1_0.toList
 · rw [if_pos c3] at H
   have c3b0 : (a0_0.toList == a1_0.toList) = true := beq_iff_eq.mpr c3
   have c3b1 : (a0_0.toList != a1_0.toList) = false := bne_eq_false_iff_eq.mpr c3
   clear c3
   by_cases c4 : a0_1 = a1_1
   · rw [if_pos c4] at H
     have c4b0 : (a0_1 == a1_1) = true := beq_iff_eq.mpr c4
     have c4b1 : (a0_1 != a1_1) = false := bne_eq_false_iff_eq.mpr c4
     clear c4
     by_cases c5 : a0_2 = a1_2
     · rw [if_pos c5] at H
       have c5b0 : (a0_2 == a1_2) = true := beq_iff_eq.mpr c5
       have c5b1 : (a0_2 != a1_2) = false := bne_eq_false_iff_eq.mpr c5
       clear c5
       by_cases c6 : a0_3 = a1_3
       · rw [if_pos c6] at H
         have c6b0 : (a0_3 == a1_3) = true := beq_iff_eq.mpr c6
         have c6b1 : (a0_3 != a1_3) = false := bne_eq_false_iff_eq.mpr c6
         clear c6
         replace H := Option.bind_eq_some_iff.mp H
         obtain ⟨t797, A70, H⟩ := H
         replace H : (if t797 = true then (if a0_5 = a1_5 then ((laws_eqByteS.f k l0_6 l1_6).bind fun t798 => (if t798 = true then ((laws_eqRelocS.f k l0_7 l1_7).bind fun t799 => (if t799 = true then (some true) else (some false))) else (some false))) else (some false)) else (some false)) = some r := H
         have A7 := Aside0.mk A70
         clear A70
         by_cases c8 : t797 = true
         · subst c8
           have H1 : (if a0_5 = a1_5 then ((laws_eqByteS.f k l0_6 l1_6).bind fun t798 => (if t798 = true then ((laws_eqRelocS.f k l0_7 l1_7).bind fun t799 => (if t799 = true then (some true) else (some false))) else (some false))) else (some false)) = some r := by rw [if_pos rfl] at H; exact H
           clear H
           have H := H1
           clear H1
           by_cases c9 : a0_5 = a1_5
           · rw [if_pos c9] at H
             have c9b0 : (a0_5 == a1_5) = true := beq_iff_eq.mpr c9
             have c9b1 : (a0_5 != a1_5) = false := bne_eq_false_iff_eq.mpr c9
             clear c9
             replace H := Option.bind_eq_some_iff.mp H
             obtain ⟨t798, A100, H⟩ := H
             replace H : (if t798 = true then ((laws_eqRelocS.f k l0_7 l1_7).bind fun t799 => (if t799 = true then (some true) else (some false))) else (some false)) = some r := H
             have A10 := Aside0.mk A100
             clear A100
             by_cases c11 : t798 = true
             · subst c11
               have H1 : ((laws_eqRelocS.f k l0_7 l1_7).bind fun t799 => (if t799 = true then (some true) else (some false))) = some r := by rw [if_pos rfl] at H; exact H
               clear H
               have H := H1
               clear H1
               replace H := Option.bind_eq_some_iff.mp H
               obtain ⟨t799, A120, H⟩ := H
               replace H : (if t799 = true then (some true) else (some false)) = some r := H
               have A12 := Aside0.mk A120
               clear A120
               by_cases c13 : t799 = true
               · subst c13
                 have H1 : (some true) = some r := by rw [if_pos rfl] at H; exact H
                 clear H
                 have H := H1
                 clear H1
                 obtain rfl := Option.some.inj H
                 go_enter Try.func146, Try.ntmps146
                 go_wp2_with (first | ((with_reducible refine gate_dst (N := 2) rfl ?_); refine box_event ?hg (N := 2) ?hd (cs := #[.string a0_0, .int .i64 a0_1, .int .i64 a0_2, .int .i64 a0_3, .slice A0_4 l0_4.length c0_4, .int .i64 a0_5, .slice A0_6 l0_6.length c0_6, .slice A0_7 l0_7.length c0_7]) (t := 130) ?hr ?_; (case hd => rfl); (case hg => rfl); (case hr => first | (go_simp; done) | (go_simp; rfl)); intro gb795 hg w14 hbox hb; have n0_ := Aside0.mk (below_step bz hb); have n1_ := Aside0.mk (hbox); have n2_ := Aside0.mk ((by rw [hg]; exact (below_size bz) : w.heap.size ≤ gb795)); have n3_ := Aside0.mk ((by rw [hg]; exact (below_size bz) : w.heap.size ≤ gb795)); clear HB; have HB := n0_; have BK795 := n1_; have GW795 := n2_; have GE795 := n3_; clear n0_ n1_ n2_ n3_; clear hb hbox hg) | ((with_reducible refine gate_dst (N := 3) rfl ?_); refine box_event ?hg (N := 3) ?hd (cs := #[.string a1_0, .int .i64 a1_1, .int .i64 a1_2, .int .i64 a1_3, .slice A1_4 l1_4.length c1_4, .int .i64 a1_5, .slice A1_6 l1_6.length c1_6, .slice A1_7 l1_7.length c1_7]) (t := 130) ?hr ?_; (case hd => rfl); (case hg => rfl); (case hr => first | (go_simp; done) | (go_simp; rfl)); intro gb796 hg w15 hbox hb; have n0_ := Aside0.mk (blk_below (g := gb795) (o := .cells #[.string a0_0, .int .i64 a0_1, .int .i64 a0_2, .int .i64 a0_3, .slice A0_4 l0_4.length c0_4, .int .i64 a0_5, .slice A0_6 l0_6.length c0_6, .slice A0_7 l0_7.length c0_7] 130 (0, 0)) kz hb); have n1_ := Aside0.mk (below_step bz hb); have n2_ := Aside0.mk (hbox); have n3_ := Aside0.mk ((by rw [hg]; exact (below_size bz) : w.heap.size ≤ gb796)); have n4_ := Aside0.mk ((by rw [hg]; exact (below_size bz) : w.heap.size ≤ gb796)); have n5_ := Aside0.mk ((by rw [hg]; exact Nat.ne_of_lt (blk_lt (g := gb795) (o := .cells #[.string a0_0, .int .i64 a0_1, .int .i64 a0_2, .int .i64 a0_3, .slice A0_4 l0_4.length c0_4, .int .i64 a0_5, .slice A0_6 l0_6.length c0_6, .slice A0_7 l0_7.length c0_7] 130 (0, 0)) kz) : gb795 ≠ gb796)); have n6_ := Aside0.mk ((by rw [hg]; exact Nat.ne_of_gt (blk_lt (g := gb795) (o := .cells #[.string a0_0, .int .i64 a0_1, .int .i64 a0_2, .int .i64 a0_3, .slice A0_4 l0_4.length c0_4, .int .i64 a0_5, .slice A0_6 l0_6.length c0_6, .slice A0_7 l0_7.length c0_7] 130 (0, 0)) kz) : gb796 ≠ gb795)); clear BK795; clear HB; have BK795 := n0_; have HB := n1_; have BK796 := n2_; have GW796 := n3_; have GE796 := n4_; have NB795_796 := n5_; have NB796_795 := n6_; clear n0_ n1_ n2_ n3_ n4_ n5_ n6_; clear hb hbox hg; have hnb16 := NB795_796.out; have hnc16 := NB796_795.out; have hcz17_0 : w15.cell? ⟨gb795, 0, none⟩ = some (.string a0_0) := (blk_cell BK795.out 0).trans rfl; have hcz17_1 : w15.cell? ⟨gb795, 1, none⟩ = some (.int .i64 a0_1) := (blk_cell BK795.out 1).trans rfl; have hcz17_2 : w15.cell? ⟨gb795, 2, none⟩ = some (.int .i64 a0_2) := (blk_cell BK795.out 2).trans rfl; have hcz17_3 : w15.cell? ⟨gb795, 3, none⟩ = some (.int .i64 a0_3) := (blk_cell BK795.out 3).trans rfl; have hcz17_4 : w15.cell? ⟨gb795, 4, none⟩ = some (.slice A0_4 l0_4.length c0_4) := (blk_cell BK795.out 4).trans rfl; have hcz17_5 : w15.cell? ⟨gb795, 5, none⟩ = some (.int .i64 a0_5) := (blk_cell BK795.out 5).trans rfl; have hcz17_6 : w15.cell? ⟨gb795, 6, none⟩ = some (.slice A0_6 l0_6.length c0_6) := (blk_cell BK795.out 6).trans rfl; have hcz17_7 : w15.cell? ⟨gb795, 7, none⟩ = some (.slice A0_7 l0_7.length c0_7) := (blk_cell BK795.out 7).trans rfl; have hfz17_0 := blk_frozen BK795.out 0; have hfz17_1 := blk_frozen BK795.out 1; have hfz17_2 := blk_frozen BK795.out 2; have hfz17_3 := blk_frozen BK795.out 3; have hfz17_4 := blk_frozen BK795.out 4; have hfz17_5 := blk_frozen BK795.out 5; have hfz17_6 := blk_frozen BK795.out 6; have hfz17_7 := blk_frozen BK795.out 7; have hcz18_0 : w15.cell? ⟨gb796, 0, none⟩ = some (.string a1_0) := (blk_cell BK796.out 0).trans rfl; have hcz18_1 : w15.cell? ⟨gb796, 1, none⟩ = some (.int .i64 a1_1) := (blk_cell BK796.out 1).trans rfl; have hcz18_2 : w15.cell? ⟨gb796, 2, none⟩ = some (.int .i64 a1_2) := (blk_cell BK796.out 2).trans rfl; have hcz18_3 : w15.cell? ⟨gb796, 3, none⟩ = some (.int .i64 a1_3) := (blk_cell BK796.out 3).trans rfl; have hcz18_4 : w15.cell? ⟨gb796, 4, none⟩ = some (.slice A1_4 l1_4.length c1_4) := (blk_cell BK796.out 4).trans rfl; have hcz18_5 : w15.cell? ⟨gb796, 5, none⟩ = some (.int .i64 a1_5) := (blk_cell BK796.out 5).trans rfl; have hcz18_6 : w15.cell? ⟨gb796, 6, none⟩ = some (.slice A1_6 l1_6.length c1_6) := (blk_cell BK796.out 6).trans rfl; have hcz18_7 : w15.cell? ⟨gb796, 7, none⟩ = some (.slice A1_7 l1_7.length c1_7) := (blk_cell BK796.out 7).trans rfl; have hfz18_0 := blk_frozen BK796.out 0; have hfz18_1 := blk_frozen BK796.out 1; have hfz18_2 := blk_frozen BK796.out 2; have hfz18_3 := blk_frozen BK796.out 3; have hfz18_4 := blk_frozen BK796.out 4; have hfz18_5 := blk_frozen BK796.out 5; have hfz18_6 := blk_frozen BK796.out 6; have hfz18_7 := blk_frozen BK796.out 7) | ((with_reducible refine gate_callee (f := 20) rfl ?_); refine goesL_ (some 29) rfl rfl Try.func20 (by kernel_rfl) rfl #[.slice A0_4 l0_4.length c0_4, .slice A1_4 l1_4.length c1_4] rfl lz ?_; (with_reducible refine (laws_eqInt64S.calls k _ _ l0_4 _ _ l1_4 true _ ?side1 ?side2 ?side3 ?side4 A7.out).mono ?_); (case side1 => exact cz HR0_4.out); (case side2 => exact HC0_4.out); (case side3 => exact cz HR1_4.out); (case side4 => exact HC1_4.out); rintro e w' ⟨rfl, ⟨nd, rfl⟩⟩; refine ⟨_, rfl, ?_⟩) | ((with_reducible refine gate_callee (f := 53) rfl ?_); refine goesL_ (some 40) rfl rfl Try.func53 (by kernel_rfl) rfl #[.slice A0_6 l0_6.length c0_6, .slice A1_6 l1_6.length c1_6] rfl lz ?_; (with_reducible refine (laws_eqByteS.calls k _ _ l0_6 _ _ l1_6 true _ ?side1 ?side2 ?side3 ?side4 A10.out).mono ?_); (case side1 => exact cz HR0_6.out); (case side2 => exact HC0_6.out); (case side3 => exact cz HR1_6.out); (case side4 => exact HC1_6.out); rintro e w' ⟨rfl, ⟨nd, rfl⟩⟩; refine ⟨_, rfl, ?_⟩) | ((with_reducible refine gate_callee (f := 184) rfl ?_); refine goesL_ (some 46) rfl rfl Try.func184 (by kernel_rfl) rfl #[.slice A0_7 l0_7.length c0_7, .slice A1_7 l1_7.length c1_7] rfl lz ?_; (with_reducible refine (laws_eqRelocS.calls k _ _ l0_7 _ _ l1_7 true _ ?side1 ?side2 ?side3 ?side4 A12.out).mono ?_); (case side1 => exact cz HR0_7.out); (case side2 => exact HC0_7.out); (case side3 => exact cz HR1_7.out); (case side4 => exact HC1_7.out); rintro e w19 ⟨rfl, hb⟩; refine ⟨_, rfl, ?_⟩; have n0_ := Aside0.mk (blk_below (g := gb795) (o := .cells #[.string a0_0, .int .i64 a0_1, .int .i64 a0_2, .int .i64 a0_3, .slice A0_4 l0_4.length c0_4, .int .i64 a0_5, .slice A0_6 l0_6.length c0_6, .slice A0_7 l0_7.length c0_7] 130 (0, 0)) kz hb); have n1_ := Aside0.mk (blk_below (g := gb796) (o := .cells #[.string a1_0, .int .i64 a1_1, .int .i64 a1_2, .int .i64 a1_3, .slice A1_4 l1_4.length c1_4, .int .i64 a1_5, .slice A1_6 l1_6.length c1_6, .slice A1_7 l1_7.length c1_7] 130 (0, 0)) kz hb); have n2_ := Aside0.mk (below_step bz hb); clear BK795; clear BK796; clear HB; have BK795 := n0_; have BK796 := n1_; have HB := n2_; clear n0_ n1_ n2_; (try clear hb); (try clear hb2); (try clear hk); (try clear hi)))
                 go_ret
                 exact ⟨by first | rfl | (simp [errW_none, errW_some] <;> rfl) | (simp [*, errW_none, errW_some] <;> rfl), bz⟩
               · replace c13 := Bool.eq_false_iff.mpr c13
                 subst c13
                 have H1 : (some false) = some r := by rw [if_neg (show ¬ (false = true) by decide)] at H; exact H
                 clear H
                 have H := H1
                 clear H1
                 obtain rfl := Option.some.inj H
                 go_enter Try.func146, Try.ntmps146
                 go_wp2_with (first | ((with_reducible refine gate_dst (N := 2) rfl ?_); refine box_event ?hg (N := 2) ?hd (cs := #[.string a0_0, .int .i64 a0_1, .int .i64 a0_2, .int .i64 a0_3, .slice A0_4 l0_4.length c0_4, .int .i64 a0_5, .slice A0_6 l0_6.length c0_6, .slice A0_7 l0_7.length c0_7]) (t := 130) ?hr ?_; (case hd => rfl); (case hg => rfl); (case hr => first | (go_simp; done) | (go_simp; rfl)); intro gb795 hg w20 hbox hb; have n0_ := Aside0.mk (below_step bz hb); have n1_ := Aside0.mk (hbox); have n2_ := Aside0.mk ((by rw [hg]; exact (below_size bz) : w.heap.size ≤ gb795)); have n3_ := Aside0.mk ((by rw [hg]; exact (below_size bz) : w.heap.size ≤ gb795)); clear HB; have HB := n0_; have BK795 := n1_; have GW795 := n2_; have GE795 := n3_; clear n0_ n1_ n2_ n3_; clear hb hbox hg) | ((with_reducible refine gate_dst (N := 3) rfl ?_); refine box_event ?hg (N := 3) ?hd (cs := #[.string a1_0, .int .i64 a1_1, .int .i64 a1_2, .int .i64 a1_3, .slice A1_4 l1_4.length c1_4, .int .i64 a1_5, .slice A1_6 l1_6.length c1_6, .slice A1_7 l1_7.length c1_7]) (t := 130) ?hr ?_; (case hd => rfl); (case hg => rfl); (case hr => first | (go_simp; done) | (go_simp; rfl)); intro gb796 hg w21 hbox hb; have n0_ := Aside0.mk (blk_below (g := gb795) (o := .cells #[.string a0_0, .int .i64 a0_1, .int .i64 a0_2, .int .i64 a0_3, .slice A0_4 l0_4.length c0_4, .int .i64 a0_5, .slice A0_6 l0_6.length c0_6, .slice A0_7 l0_7.length c0_7] 130 (0, 0)) kz hb); have n1_ := Aside0.mk (below_step bz hb); have n2_ := Aside0.mk (hbox); have n3_ := Aside0.mk ((by rw [hg]; exact (below_size bz) : w.heap.size ≤ gb796)); have n4_ := Aside0.mk ((by rw [hg]; exact (below_size bz) : w.heap.size ≤ gb796)); have n5_ := Aside0.mk ((by rw [hg]; exact Nat.ne_of_lt (blk_lt (g := gb795) (o := .cells #[.string a0_0, .int .i64 a0_1, .int .i64 a0_2, .int .i64 a0_3, .slice A0_4 l0_4.length c0_4, .int .i64 a0_5, .slice A0_6 l0_6.length c0_6, .slice A0_7 l0_7.length c0_7] 130 (0, 0)) kz) : gb795 ≠ gb796)); have n6_ := Aside0.mk ((by rw [hg]; exact Nat.ne_of_gt (blk_lt (g := gb795) (o := .cells #[.string a0_0, .int .i64 a0_1, .int .i64 a0_2, .int .i64 a0_3, .slice A0_4 l0_4.length c0_4, .int .i64 a0_5, .slice A0_6 l0_6.length c0_6, .slice A0_7 l0_7.length c0_7] 130 (0, 0)) kz) : gb796 ≠ gb795)); clear BK795; clear HB; have BK795 := n0_; have HB := n1_; have BK796 := n2_; have GW796 := n3_; have GE796 := n4_; have NB795_796 := n5_; have NB796_795 := n6_; clear n0_ n1_ n2_ n3_ n4_ n5_ n6_; clear hb hbox hg; have hnb22 := NB795_796.out; have hnc22 := NB796_795.out; have hcz23_0 : w21.cell? ⟨gb795, 0, none⟩ = some (.string a0_0) := (blk_cell BK795.out 0).trans rfl; have hcz23_1 : w21.cell? ⟨gb795, 1, none⟩ = some (.int .i64 a0_1) := (blk_cell BK795.out 1).trans rfl; have hcz23_2 : w21.cell? ⟨gb795, 2, none⟩ = some (.int .i64 a0_2) := (blk_cell BK795.out 2).trans rfl; have hcz23_3 : w21.cell? ⟨gb795, 3, none⟩ = some (.int .i64 a0_3) := (blk_cell BK795.out 3).trans rfl; have hcz23_4 : w21.cell? ⟨gb795, 4, none⟩ = some (.slice A0_4 l0_4.length c0_4) := (blk_cell BK795.out 4).trans rfl; have hcz23_5 : w21.cell? ⟨gb795, 5, none⟩ = some (.int .i64 a0_5) := (blk_cell BK795.out 5).trans rfl; have hcz23_6 : w21.cell? ⟨gb795, 6, none⟩ = some (.slice A0_6 l0_6.length c0_6) := (blk_cell BK795.out 6).trans rfl; have hcz23_7 : w21.cell? ⟨gb795, 7, none⟩ = some (.slice A0_7 l0_7.length c0_7) := (blk_cell BK795.out 7).trans rfl; have hfz23_0 := blk_frozen BK795.out 0; have hfz23_1 := blk_frozen BK795.out 1; have hfz23_2 := blk_frozen BK795.out 2; have hfz23_3 := blk_frozen BK795.out 3; have hfz23_4 := blk_frozen BK795.out 4; have hfz23_5 := blk_frozen BK795.out 5; have hfz23_6 := blk_frozen BK795.out 6; have hfz23_7 := blk_frozen BK795.out 7; have hcz24_0 : w21.cell? ⟨gb796, 0, none⟩ = some (.string a1_0) := (blk_cell BK796.out 0).trans rfl; have hcz24_1 : w21.cell? ⟨gb796, 1, none⟩ = some (.int .i64 a1_1) := (blk_cell BK796.out 1).trans rfl; have hcz24_2 : w21.cell? ⟨gb796, 2, none⟩ = some (.int .i64 a1_2) := (blk_cell BK796.out 2).trans rfl; have hcz24_3 : w21.cell? ⟨gb796, 3, none⟩ = some (.int .i64 a1_3) := (blk_cell BK796.out 3).trans rfl; have hcz24_4 : w21.cell? ⟨gb796, 4, none⟩ = some (.slice A1_4 l1_4.length c1_4) := (blk_cell BK796.out 4).trans rfl; have hcz24_5 : w21.cell? ⟨gb796, 5, none⟩ = some (.int .i64 a1_5) := (blk_cell BK796.out 5).trans rfl; have hcz24_6 : w21.cell? ⟨gb796, 6, none⟩ = some (.slice A1_6 l1_6.length c1_6) := (blk_cell BK796.out 6).trans rfl; have hcz24_7 : w21.cell? ⟨gb796, 7, none⟩ = some (.slice A1_7 l1_7.length c1_7) := (blk_cell BK796.out 7).trans rfl; have hfz24_0 := blk_frozen BK796.out 0; have hfz24_1 := blk_frozen BK796.out 1; have hfz24_2 := blk_frozen BK796.out 2; have hfz24_3 := blk_frozen BK796.out 3; have hfz24_4 := blk_frozen BK796.out 4; have hfz24_5 := blk_frozen BK796.out 5; have hfz24_6 := blk_frozen BK796.out 6; have hfz24_7 := blk_frozen BK796.out 7) | ((with_reducible refine gate_callee (f := 20) rfl ?_); refine goesL_ (some 29) rfl rfl Try.func20 (by kernel_rfl) rfl #[.slice A0_4 l0_4.length c0_4, .slice A1_4 l1_4.length c1_4] rfl lz ?_; (with_reducible refine (laws_eqInt64S.calls k _ _ l0_4 _ _ l1_4 true _ ?side1 ?side2 ?side3 ?side4 A7.out).mono ?_); (case side1 => exact cz HR0_4.out); (case side2 => exact HC0_4.out); (case side3 => exact cz HR1_4.out); (case side4 => exact HC1_4.out); rintro e w' ⟨rfl, ⟨nd, rfl⟩⟩; refine ⟨_, rfl, ?_⟩) | ((with_reducible refine gate_callee (f := 53) rfl ?_); refine goesL_ (some 40) rfl rfl Try.func53 (by kernel_rfl) rfl #[.slice A0_6 l0_6.length c0_6, .slice A1_6 l1_6.length c1_6] rfl lz ?_; (with_reducible refine (laws_eqByteS.calls k _ _ l0_6 _ _ l1_6 true _ ?side1 ?side2 ?side3 ?side4 A10.out).mono ?_); (case side1 => exact cz HR0_6.out); (case side2 => exact HC0_6.out); (case side3 => exact cz HR1_6.out); (case side4 => exact HC1_6.out); rintro e w' ⟨rfl, ⟨nd, rfl⟩⟩; refine ⟨_, rfl, ?_⟩) | ((with_reducible refine gate_callee (f := 184) rfl ?_); refine goesL_ (some 46) rfl rfl Try.func184 (by kernel_rfl) rfl #[.slice A0_7 l0_7.length c0_7, .slice A1_7 l1_7.length c1_7] rfl lz ?_; (with_reducible refine (laws_eqRelocS.calls k _ _ l0_7 _ _ l1_7 false _ ?side1 ?side2 ?side3 ?side4 A12.out).mono ?_); (case side1 => exact cz HR0_7.out); (case side2 => exact HC0_7.out); (case side3 => exact cz HR1_7.out); (case side4 => exact HC1_7.out); rintro e w25 ⟨rfl, hb⟩; refine ⟨_, rfl, ?_⟩; have n0_ := Aside0.mk (blk_below (g := gb795) (o := .cells #[.string a0_0, .int .i64 a0_1, .int .i64 a0_2, .int .i64 a0_3, .slice A0_4 l0_4.length c0_4, .int .i64 a0_5, .slice A0_6 l0_6.length c0_6, .slice A0_7 l0_7.length c0_7] 130 (0, 0)) kz hb); have n1_ := Aside0.mk (blk_below (g := gb796) (o := .cells #[.string a1_0, .int .i64 a1_1, .int .i64 a1_2, .int .i64 a1_3, .slice A1_4 l1_4.length c1_4, .int .i64 a1_5, .slice A1_6 l1_6.length c1_6, .slice A1_7 l1_7.length c1_7] 130 (0, 0)) kz hb); have n2_ := Aside0.mk (below_step bz hb); clear BK795; clear BK796; clear HB; have BK795 := n0_; have BK796 := n1_; have HB := n2_; clear n0_ n1_ n2_; (try clear hb); (try clear hb2); (try clear hk); (try clear hi)))
                 go_ret
                 exact ⟨by first | rfl | (simp [errW_none, errW_some] <;> rfl) | (simp [*, errW_none, errW_some] <;> rfl), bz⟩
             · replace c11 := Bool.eq_false_iff.mpr c11
               subst c11
               have H1 : (some false) = some r := by rw [if_neg (show ¬ (false = true) by decide)] at H; exact H
               clear H
               have H := H1
               clear H1
               obtain rfl := Option.some.inj H
               go_enter Try.func146, Try.ntmps146
               go_wp2_with (first | ((with_reducible refine gate_dst (N := 2) rfl ?_); refine box_event ?hg (N := 2) ?hd (cs := #[.string a0_0, .int .i64 a0_1, .int .i64 a0_2, .int .i64 a0_3, .slice A0_4 l0_4.length c0_4, .int .i64 a0_5, .slice A0_6 l0_6.length c0_6, .slice A0_7 l0_7.length c0_7]) (t := 130) ?hr ?_; (case hd => rfl); (case hg => rfl); (case hr => first | (go_simp; done) | (go_simp; rfl)); intro gb795 hg w26 hbox hb; have n0_ := Aside0.mk (below_step bz hb); have n1_ := Aside0.mk (hbox); have n2_ := Aside0.mk ((by rw [hg]; exact (below_size bz) : w.heap.size ≤ gb795)); have n3_ := Aside0.mk ((by rw [hg]; exact (below_size bz) : w.heap.size ≤ gb795)); clear HB; have HB := n0_; have BK795 := n1_; have GW795 := n2_; have GE795 := n3_; clear n0_ n1_ n2_ n3_; clear hb hbox hg) | ((with_reducible refine gate_dst (N := 3) rfl ?_); refine box_event ?hg (N := 3) ?hd (cs := #[.string a1_0, .int .i64 a1_1, .int .i64 a1_2, .int .i64 a1_3, .slice A1_4 l1_4.length c1_4, .int .i64 a1_5, .slice A1_6 l1_6.length c1_6, .slice A1_7 l1_7.length c1_7]) (t := 130) ?hr ?_; (case hd => rfl); (case hg => rfl); (case hr => first | (go_simp; done) | (go_simp; rfl)); intro gb796 hg w27 hbox hb; have n0_ := Aside0.mk (blk_below (g := gb795) (o := .cells #[.string a0_0, .int .i64 a0_1, .int .i64 a0_2, .int .i64 a0_3, .slice A0_4 l0_4.length c0_4, .int .i64 a0_5, .slice A0_6 l0_6.length c0_6, .slice A0_7 l0_7.length c0_7] 130 (0, 0)) kz hb); have n1_ := Aside0.mk (below_step bz hb); have n2_ := Aside0.mk (hbox); have n3_ := Aside0.mk ((by rw [hg]; exact (below_size bz) : w.heap.size ≤ gb796)); have n4_ := Aside0.mk ((by rw [hg]; exact (below_size bz) : w.heap.size ≤ gb796)); have n5_ := Aside0.mk ((by rw [hg]; exact Nat.ne_of_lt (blk_lt (g := gb795) (o := .cells #[.string a0_0, .int .i64 a0_1, .int .i64 a0_2, .int .i64 a0_3, .slice A0_4 l0_4.length c0_4, .int .i64 a0_5, .slice A0_6 l0_6.length c0_6, .slice A0_7 l0_7.length c0_7] 130 (0, 0)) kz) : gb795 ≠ gb796)); have n6_ := Aside0.mk ((by rw [hg]; exact Nat.ne_of_gt (blk_lt (g := gb795) (o := .cells #[.string a0_0, .int .i64 a0_1, .int .i64 a0_2, .int .i64 a0_3, .slice A0_4 l0_4.length c0_4, .int .i64 a0_5, .slice A0_6 l0_6.length c0_6, .slice A0_7 l0_7.length c0_7] 130 (0, 0)) kz) : gb796 ≠ gb795)); clear BK795; clear HB; have BK795 := n0_; have HB := n1_; have BK796 := n2_; have GW796 := n3_; have GE796 := n4_; have NB795_796 := n5_; have NB796_795 := n6_; clear n0_ n1_ n2_ n3_ n4_ n5_ n6_; clear hb hbox hg; have hnb28 := NB795_796.out; have hnc28 := NB796_795.out; have hcz29_0 : w27.cell? ⟨gb795, 0, none⟩ = some (.string a0_0) := (blk_cell BK795.out 0).trans rfl; have hcz29_1 : w27.cell? ⟨gb795, 1, none⟩ = some (.int .i64 a0_1) := (blk_cell BK795.out 1).trans rfl; have hcz29_2 : w27.cell? ⟨gb795, 2, none⟩ = some (.int .i64 a0_2) := (blk_cell BK795.out 2).trans rfl; have hcz29_3 : w27.cell? ⟨gb795, 3, none⟩ = some (.int .i64 a0_3) := (blk_cell BK795.out 3).trans rfl; have hcz29_4 : w27.cell? ⟨gb795, 4, none⟩ = some (.slice A0_4 l0_4.length c0_4) := (blk_cell BK795.out 4).trans rfl; have hcz29_5 : w27.cell? ⟨gb795, 5, none⟩ = some (.int .i64 a0_5) := (blk_cell BK795.out 5).trans rfl; have hcz29_6 : w27.cell? ⟨gb795, 6, none⟩ = some (.slice A0_6 l0_6.length c0_6) := (blk_cell BK795.out 6).trans rfl; have hcz29_7 : w27.cell? ⟨gb795, 7, none⟩ = some (.slice A0_7 l0_7.length c0_7) := (blk_cell BK795.out 7).trans rfl; have hfz29_0 := blk_frozen BK795.out 0; have hfz29_1 := blk_frozen BK795.out 1; have hfz29_2 := blk_frozen BK795.out 2; have hfz29_3 := blk_frozen BK795.out 3; have hfz29_4 := blk_frozen BK795.out 4; have hfz29_5 := blk_frozen BK795.out 5; have hfz29_6 := blk_frozen BK795.out 6; have hfz29_7 := blk_frozen BK795.out 7; have hcz30_0 : w27.cell? ⟨gb796, 0, none⟩ = some (.string a1_0) := (blk_cell BK796.out 0).trans rfl; have hcz30_1 : w27.cell? ⟨gb796, 1, none⟩ = some (.int .i64 a1_1) := (blk_cell BK796.out 1).trans rfl; have hcz30_2 : w27.cell? ⟨gb796, 2, none⟩ = some (.int .i64 a1_2) := (blk_cell BK796.out 2).trans rfl; have hcz30_3 : w27.cell? ⟨gb796, 3, none⟩ = some (.int .i64 a1_3) := (blk_cell BK796.out 3).trans rfl; have hcz30_4 : w27.cell? ⟨gb796, 4, none⟩ = some (.slice A1_4 l1_4.length c1_4) := (blk_cell BK796.out 4).trans rfl; have hcz30_5 : w27.cell? ⟨gb796, 5, none⟩ = some (.int .i64 a1_5) := (blk_cell BK796.out 5).trans rfl; have hcz30_6 : w27.cell? ⟨gb796, 6, none⟩ = some (.slice A1_6 l1_6.length c1_6) := (blk_cell BK796.out 6).trans rfl; have hcz30_7 : w27.cell? ⟨gb796, 7, none⟩ = some (.slice A1_7 l1_7.length c1_7) := (blk_cell BK796.out 7).trans rfl; have hfz30_0 := blk_frozen BK796.out 0; have hfz30_1 := blk_frozen BK796.out 1; have hfz30_2 := blk_frozen BK796.out 2; have hfz30_3 := blk_frozen BK796.out 3; have hfz30_4 := blk_frozen BK796.out 4; have hfz30_5 := blk_frozen BK796.out 5; have hfz30_6 := blk_frozen BK796.out 6; have hfz30_7 := blk_frozen BK796.out 7) | ((with_reducible refine gate_callee (f := 20) rfl ?_); refine goesL_ (some 29) rfl rfl Try.func20 (by kernel_rfl) rfl #[.slice A0_4 l0_4.length c0_4, .slice A1_4 l1_4.length c1_4] rfl lz ?_; (with_reducible refine (laws_eqInt64S.calls k _ _ l0_4 _ _ l1_4 true _ ?side1 ?side2 ?side3 ?side4 A7.out).mono ?_); (case side1 => exact cz HR0_4.out); (case side2 => exact HC0_4.out); (case side3 => exact cz HR1_4.out); (case side4 => exact HC1_4.out); rintro e w' ⟨rfl, ⟨nd, rfl⟩⟩; refine ⟨_, rfl, ?_⟩) | ((with_reducible refine gate_callee (f := 53) rfl ?_); refine goesL_ (some 40) rfl rfl Try.func53 (by kernel_rfl) rfl #[.slice A0_6 l0_6.length c0_6, .slice A1_6 l1_6.length c1_6] rfl lz ?_; (with_reducible refine (laws_eqByteS.calls k _ _ l0_6 _ _ l1_6 false _ ?side1 ?side2 ?side3 ?side4 A10.out).mono ?_); (case side1 => exact cz HR0_6.out); (case side2 => exact HC0_6.out); (case side3 => exact cz HR1_6.out); (case side4 => exact HC1_6.out); rintro e w' ⟨rfl, ⟨nd, rfl⟩⟩; refine ⟨_, rfl, ?_⟩))
               go_ret
               exact ⟨by first | rfl | (simp [errW_none, errW_some] <;> rfl) | (simp [*, errW_none, errW_some] <;> rfl), bz⟩
           · rw [if_neg c9] at H
             have c9b0 : (a0_5 == a1_5) = false := beq_eq_false_iff_ne.mpr c9
             have c9b1 : (a0_5 != a1_5) = true := bne_iff_ne.mpr c9
             obtain rfl := Option.some.inj H
             go_enter Try.func146, Try.ntmps146
             go_wp2_with (first | ((with_reducible refine gate_dst (N := 2) rfl ?_); refine box_event ?hg (N := 2) ?hd (cs := #[.string a0_0, .int .i64 a0_1, .int .i64 a0_2, .int .i64 a0_3, .slice A0_4 l0_4.length c0_4, .int .i64 a0_5, .slice A0_6 l0_6.length c0_6, .slice A0_7 l0_7.length c0_7]) (t := 130) ?hr ?_; (case hd => rfl); (case hg => rfl); (case hr => first | (go_simp; done) | (go_simp; rfl)); intro gb795 hg w31 hbox hb; have n0_ := Aside0.mk (below_step bz hb); have n1_ := Aside0.mk (hbox); have n2_ := Aside0.mk ((by rw [hg]; exact (below_size bz) : w.heap.size ≤ gb795)); have n3_ := Aside0.mk ((by rw [hg]; exact (below_size bz) : w.heap.size ≤ gb795)); clear HB; have HB := n0_; have BK795 := n1_; have GW795 := n2_; have GE795 := n3_; clear n0_ n1_ n2_ n3_; clear hb hbox hg) | ((with_reducible refine gate_dst (N := 3) rfl ?_); refine box_event ?hg (N := 3) ?hd (cs := #[.string a1_0, .int .i64 a1_1, .int .i64 a1_2, .int .i64 a1_3, .slice A1_4 l1_4.length c1_4, .int .i64 a1_5, .slice A1_6 l1_6.length c1_6, .slice A1_7 l1_7.length c1_7]) (t := 130) ?hr ?_; (case hd => rfl); (case hg => rfl); (case hr => first | (go_simp; done) | (go_simp; rfl)); intro gb796 hg w32 hbox hb; have n0_ := Aside0.mk (blk_below (g := gb795) (o := .cells #[.string a0_0, .int .i64 a0_1, .int .i64 a0_2, .int .i64 a0_3, .slice A0_4 l0_4.length c0_4, .int .i64 a0_5, .slice A0_6 l0_6.length c0_6, .slice A0_7 l0_7.length c0_7] 130 (0, 0)) kz hb); have n1_ := Aside0.mk (below_step bz hb); have n2_ := Aside0.mk (hbox); have n3_ := Aside0.mk ((by rw [hg]; exact (below_size bz) : w.heap.size ≤ gb796)); have n4_ := Aside0.mk ((by rw [hg]; exact (below_size bz) : w.heap.size ≤ gb796)); have n5_ := Aside0.mk ((by rw [hg]; exact Nat.ne_of_lt (blk_lt (g := gb795) (o := .cells #[.string a0_0, .int .i64 a0_1, .int .i64 a0_2, .int .i64 a0_3, .slice A0_4 l0_4.length c0_4, .int .i64 a0_5, .slice A0_6 l0_6.length c0_6, .slice A0_7 l0_7.length c0_7] 130 (0, 0)) kz) : gb795 ≠ gb796)); have n6_ := Aside0.mk ((by rw [hg]; exact Nat.ne_of_gt (blk_lt (g := gb795) (o := .cells #[.string a0_0, .int .i64 a0_1, .int .i64 a0_2, .int .i64 a0_3, .slice A0_4 l0_4.length c0_4, .int .i64 a0_5, .slice A0_6 l0_6.length c0_6, .slice A0_7 l0_7.length c0_7] 130 (0, 0)) kz) : gb796 ≠ gb795)); clear BK795; clear HB; have BK795 := n0_; have HB := n1_; have BK796 := n2_; have GW796 := n3_; have GE796 := n4_; have NB795_796 := n5_; have NB796_795 := n6_; clear n0_ n1_ n2_ n3_ n4_ n5_ n6_; clear hb hbox hg; have hnb33 := NB795_796.out; have hnc33 := NB796_795.out; have hcz34_0 : w32.cell? ⟨gb795, 0, none⟩ = some (.string a0_0) := (blk_cell BK795.out 0).trans rfl; have hcz34_1 : w32.cell? ⟨gb795, 1, none⟩ = some (.int .i64 a0_1) := (blk_cell BK795.out 1).trans rfl; have hcz34_2 : w32.cell? ⟨gb795, 2, none⟩ = some (.int .i64 a0_2) := (blk_cell BK795.out 2).trans rfl; have hcz34_3 : w32.cell? ⟨gb795, 3, none⟩ = some (.int .i64 a0_3) := (blk_cell BK795.out 3).trans rfl; have hcz34_4 : w32.cell? ⟨gb795, 4, none⟩ = some (.slice A0_4 l0_4.length c0_4) := (blk_cell BK795.out 4).trans rfl; have hcz34_5 : w32.cell? ⟨gb795, 5, none⟩ = some (.int .i64 a0_5) := (blk_cell BK795.out 5).trans rfl; have hcz34_6 : w32.cell? ⟨gb795, 6, none⟩ = some (.slice A0_6 l0_6.length c0_6) := (blk_cell BK795.out 6).trans rfl; have hcz34_7 : w32.cell? ⟨gb795, 7, none⟩ = some (.slice A0_7 l0_7.length c0_7) := (blk_cell BK795.out 7).trans rfl; have hfz34_0 := blk_frozen BK795.out 0; have hfz34_1 := blk_frozen BK795.out 1; have hfz34_2 := blk_frozen BK795.out 2; have hfz34_3 := blk_frozen BK795.out 3; have hfz34_4 := blk_frozen BK795.out 4; have hfz34_5 := blk_frozen BK795.out 5; have hfz34_6 := blk_frozen BK795.out 6; have hfz34_7 := blk_frozen BK795.out 7; have hcz35_0 : w32.cell? ⟨gb796, 0, none⟩ = some (.string a1_0) := (blk_cell BK796.out 0).trans rfl; have hcz35_1 : w32.cell? ⟨gb796, 1, none⟩ = some (.int .i64 a1_1) := (blk_cell BK796.out 1).trans rfl; have hcz35_2 : w32.cell? ⟨gb796, 2, none⟩ = some (.int .i64 a1_2) := (blk_cell BK796.out 2).trans rfl; have hcz35_3 : w32.cell? ⟨gb796, 3, none⟩ = some (.int .i64 a1_3) := (blk_cell BK796.out 3).trans rfl; have hcz35_4 : w32.cell? ⟨gb796, 4, none⟩ = some (.slice A1_4 l1_4.length c1_4) := (blk_cell BK796.out 4).trans rfl; have hcz35_5 : w32.cell? ⟨gb796, 5, none⟩ = some (.int .i64 a1_5) := (blk_cell BK796.out 5).trans rfl; have hcz35_6 : w32.cell? ⟨gb796, 6, none⟩ = some (.slice A1_6 l1_6.length c1_6) := (blk_cell BK796.out 6).trans rfl; have hcz35_7 : w32.cell? ⟨gb796, 7, none⟩ = some (.slice A1_7 l1_7.length c1_7) := (blk_cell BK796.out 7).trans rfl; have hfz35_0 := blk_frozen BK796.out 0; have hfz35_1 := blk_frozen BK796.out 1; have hfz35_2 := blk_frozen BK796.out 2; have hfz35_3 := blk_frozen BK796.out 3; have hfz35_4 := blk_frozen BK796.out 4; have hfz35_5 := blk_frozen BK796.out 5; have hfz35_6 := blk_frozen BK796.out 6; have hfz35_7 := blk_frozen BK796.out 7) | ((with_reducible refine gate_callee (f := 20) rfl ?_); refine goesL_ (some 29) rfl rfl Try.func20 (by kernel_rfl) rfl #[.slice A0_4 l0_4.length c0_4, .slice A1_4 l1_4.length c1_4] rfl lz ?_; (with_reducible refine (laws_eqInt64S.calls k _ _ l0_4 _ _ l1_4 true _ ?side1 ?side2 ?side3 ?side4 A7.out).mono ?_); (case side1 => exact cz HR0_4.out); (case side2 => exact HC0_4.out); (case side3 => exact cz HR1_4.out); (case side4 => exact HC1_4.out); rintro e w' ⟨rfl, ⟨nd, rfl⟩⟩; refine ⟨_, rfl, ?_⟩))
             go_ret
             exact ⟨by first | rfl | (simp [errW_none, errW_some] <;> rfl) | (simp [*, errW_none, errW_some] <;> rfl), bz⟩
         · replace c8 := Bool.eq_false_iff.mpr c8
           subst c8
           have H1 : (some false) = some r := by rw [if_neg (show ¬ (false = true) by decide)] at H; exact H
           clear H
           have H := H1
           clear H1
           obtain rfl := Option.some.inj H
           go_enter Try.func146, Try.ntmps146
           go_wp2_with (first | ((with_reducible refine gate_dst (N := 2) rfl ?_); refine box_event ?hg (N := 2) ?hd (cs := #[.string a0_0, .int .i64 a0_1, .int .i64 a0_2, .int .i64 a0_3, .slice A0_4 l0_4.length c0_4, .int .i64 a0_5, .slice A0_6 l0_6.length c0_6, .slice A0_7 l0_7.length c0_7]) (t := 130) ?hr ?_; (case hd => rfl); (case hg => rfl); (case hr => first | (go_simp; done) | (go_simp; rfl)); intro gb795 hg w36 hbox hb; have n0_ := Aside0.mk (below_step bz hb); have n1_ := Aside0.mk (hbox); have n2_ := Aside0.mk ((by rw [hg]; exact (below_size bz) : w.heap.size ≤ gb795)); have n3_ := Aside0.mk ((by rw [hg]; exact (below_size bz) : w.heap.size ≤ gb795)); clear HB; have HB := n0_; have BK795 := n1_; have GW795 := n2_; have GE795 := n3_; clear n0_ n1_ n2_ n3_; clear hb hbox hg) | ((with_reducible refine gate_dst (N := 3) rfl ?_); refine box_event ?hg (N := 3) ?hd (cs := #[.string a1_0, .int .i64 a1_1, .int .i64 a1_2, .int .i64 a1_3, .slice A1_4 l1_4.length c1_4, .int .i64 a1_5, .slice A1_6 l1_6.length c1_6, .slice A1_7 l1_7.length c1_7]) (t := 130) ?hr ?_; (case hd => rfl); (case hg => rfl); (case hr => first | (go_simp; done) | (go_simp; rfl)); intro gb796 hg w37 hbox hb; have n0_ := Aside0.mk (blk_below (g := gb795) (o := .cells #[.string a0_0, .int .i64 a0_1, .int .i64 a0_2, .int .i64 a0_3, .slice A0_4 l0_4.length c0_4, .int .i64 a0_5, .slice A0_6 l0_6.length c0_6, .slice A0_7 l0_7.length c0_7] 130 (0, 0)) kz hb); have n1_ := Aside0.mk (below_step bz hb); have n2_ := Aside0.mk (hbox); have n3_ := Aside0.mk ((by rw [hg]; exact (below_size bz) : w.heap.size ≤ gb796)); have n4_ := Aside0.mk ((by rw [hg]; exact (below_size bz) : w.heap.size ≤ gb796)); have n5_ := Aside0.mk ((by rw [hg]; exact Nat.ne_of_lt (blk_lt (g := gb795) (o := .cells #[.string a0_0, .int .i64 a0_1, .int .i64 a0_2, .int .i64 a0_3, .slice A0_4 l0_4.length c0_4, .int .i64 a0_5, .slice A0_6 l0_6.length c0_6, .slice A0_7 l0_7.length c0_7] 130 (0, 0)) kz) : gb795 ≠ gb796)); have n6_ := Aside0.mk ((by rw [hg]; exact Nat.ne_of_gt (blk_lt (g := gb795) (o := .cells #[.string a0_0, .int .i64 a0_1, .int .i64 a0_2, .int .i64 a0_3, .slice A0_4 l0_4.length c0_4, .int .i64 a0_5, .slice A0_6 l0_6.length c0_6, .slice A0_7 l0_7.length c0_7] 130 (0, 0)) kz) : gb796 ≠ gb795)); clear BK795; clear HB; have BK795 := n0_; have HB := n1_; have BK796 := n2_; have GW796 := n3_; have GE796 := n4_; have NB795_796 := n5_; have NB796_795 := n6_; clear n0_ n1_ n2_ n3_ n4_ n5_ n6_; clear hb hbox hg; have hnb38 := NB795_796.out; have hnc38 := NB796_795.out; have hcz39_0 : w37.cell? ⟨gb795, 0, none⟩ = some (.string a0_0) := (blk_cell BK795.out 0).trans rfl; have hcz39_1 : w37.cell? ⟨gb795, 1, none⟩ = some (.int .i64 a0_1) := (blk_cell BK795.out 1).trans rfl; have hcz39_2 : w37.cell? ⟨gb795, 2, none⟩ = some (.int .i64 a0_2) := (blk_cell BK795.out 2).trans rfl; have hcz39_3 : w37.cell? ⟨gb795, 3, none⟩ = some (.int .i64 a0_3) := (blk_cell BK795.out 3).trans rfl; have hcz39_4 : w37.cell? ⟨gb795, 4, none⟩ = some (.slice A0_4 l0_4.length c0_4) := (blk_cell BK795.out 4).trans rfl; have hcz39_5 : w37.cell? ⟨gb795, 5, none⟩ = some (.int .i64 a0_5) := (blk_cell BK795.out 5).trans rfl; have hcz39_6 : w37.cell? ⟨gb795, 6, none⟩ = some (.slice A0_6 l0_6.length c0_6) := (blk_cell BK795.out 6).trans rfl; have hcz39_7 : w37.cell? ⟨gb795, 7, none⟩ = some (.slice A0_7 l0_7.length c0_7) := (blk_cell BK795.out 7).trans rfl; have hfz39_0 := blk_frozen BK795.out 0; have hfz39_1 := blk_frozen BK795.out 1; have hfz39_2 := blk_frozen BK795.out 2; have hfz39_3 := blk_frozen BK795.out 3; have hfz39_4 := blk_frozen BK795.out 4; have hfz39_5 := blk_frozen BK795.out 5; have hfz39_6 := blk_frozen BK795.out 6; have hfz39_7 := blk_frozen BK795.out 7; have hcz40_0 : w37.cell? ⟨gb796, 0, none⟩ = some (.string a1_0) := (blk_cell BK796.out 0).trans rfl; have hcz40_1 : w37.cell? ⟨gb796, 1, none⟩ = some (.int .i64 a1_1) := (blk_cell BK796.out 1).trans rfl; have hcz40_2 : w37.cell? ⟨gb796, 2, none⟩ = some (.int .i64 a1_2) := (blk_cell BK796.out 2).trans rfl; have hcz40_3 : w37.cell? ⟨gb796, 3, none⟩ = some (.int .i64 a1_3) := (blk_cell BK796.out 3).trans rfl; have hcz40_4 : w37.cell? ⟨gb796, 4, none⟩ = some (.slice A1_4 l1_4.length c1_4) := (blk_cell BK796.out 4).trans rfl; have hcz40_5 : w37.cell? ⟨gb796, 5, none⟩ = some (.int .i64 a1_5) := (blk_cell BK796.out 5).trans rfl; have hcz40_6 : w37.cell? ⟨gb796, 6, none⟩ = some (.slice A1_6 l1_6.length c1_6) := (blk_cell BK796.out 6).trans rfl; have hcz40_7 : w37.cell? ⟨gb796, 7, none⟩ = some (.slice A1_7 l1_7.length c1_7) := (blk_cell BK796.out 7).trans rfl; have hfz40_0 := blk_frozen BK796.out 0; have hfz40_1 := blk_frozen BK796.out 1; have hfz40_2 := blk_frozen BK796.out 2; have hfz40_3 := blk_frozen BK796.out 3; have hfz40_4 := blk_frozen BK796.out 4; have hfz40_5 := blk_frozen BK796.out 5; have hfz40_6 := blk_frozen BK796.out 6; have hfz40_7 := blk_frozen BK796.out 7) | ((with_reducible refine gate_callee (f := 20) rfl ?_); refine goesL_ (some 29) rfl rfl Try.func20 (by kernel_rfl) rfl #[.slice A0_4 l0_4.length c0_4, .slice A1_4 l1_4.length c1_4] rfl lz ?_; (with_reducible refine (laws_eqInt64S.calls k _ _ l0_4 _ _ l1_4 false _ ?side1 ?side2 ?side3 ?side4 A7.out).mono ?_); (case side1 => exact cz HR0_4.out); (case side2 => exact HC0_4.out); (case side3 => exact cz HR1_4.out); (case side4 => exact HC1_4.out); rintro e w' ⟨rfl, ⟨nd, rfl⟩⟩; refine ⟨_, rfl, ?_⟩))
           go_ret
           exact ⟨by first | rfl | (simp [errW_none, errW_some] <;> rfl) | (simp [*, errW_none, errW_some] <;> rfl), bz⟩
       · rw [if_neg c6] at H
         have c6b0 : (a0_3 == a1_3) = false := beq_eq_false_iff_ne.mpr c6
         have c6b1 : (a0_3 != a1_3) = true := bne_iff_ne.mpr c6
         obtain rfl := Option.some.inj H
         go_enter Try.func146, Try.ntmps146
         go_wp2_with (first | ((with_reducible refine gate_dst (N := 2) rfl ?_); refine box_event ?hg (N := 2) ?hd (cs := #[.string a0_0, .int .i64 a0_1, .int .i64 a0_2, .int .i64 a0_3, .slice A0_4 l0_4.length c0_4, .int .i64 a0_5, .slice A0_6 l0_6.length c0_6, .slice A0_7 l0_7.length c0_7]) (t := 130) ?hr ?_; (case hd => rfl); (case hg => rfl); (case hr => first | (go_simp; done) | (go_simp; rfl)); intro gb795 hg w41 hbox hb; have n0_ := Aside0.mk (below_step bz hb); have n1_ := Aside0.mk (hbox); have n2_ := Aside0.mk ((by rw [hg]; exact (below_size bz) : w.heap.size ≤ gb795)); have n3_ := Aside0.mk ((by rw [hg]; exact (below_size bz) : w.heap.size ≤ gb795)); clear HB; have HB := n0_; have BK795 := n1_; have GW795 := n2_; have GE795 := n3_; clear n0_ n1_ n2_ n3_; clear hb hbox hg) | ((with_reducible refine gate_dst (N := 3) rfl ?_); refine box_event ?hg (N := 3) ?hd (cs := #[.string a1_0, .int .i64 a1_1, .int .i64 a1_2, .int .i64 a1_3, .slice A1_4 l1_4.length c1_4, .int .i64 a1_5, .slice A1_6 l1_6.length c1_6, .slice A1_7 l1_7.length c1_7]) (t := 130) ?hr ?_; (case hd => rfl); (case hg => rfl); (case hr => first | (go_simp; done) | (go_simp; rfl)); intro gb796 hg w42 hbox hb; have n0_ := Aside0.mk (blk_below (g := gb795) (o := .cells #[.string a0_0, .int .i64 a0_1, .int .i64 a0_2, .int .i64 a0_3, .slice A0_4 l0_4.length c0_4, .int .i64 a0_5, .slice A0_6 l0_6.length c0_6, .slice A0_7 l0_7.length c0_7] 130 (0, 0)) kz hb); have n1_ := Aside0.mk (below_step bz hb); have n2_ := Aside0.mk (hbox); have n3_ := Aside0.mk ((by rw [hg]; exact (below_size bz) : w.heap.size ≤ gb796)); have n4_ := Aside0.mk ((by rw [hg]; exact (below_size bz) : w.heap.size ≤ gb796)); have n5_ := Aside0.mk ((by rw [hg]; exact Nat.ne_of_lt (blk_lt (g := gb795) (o := .cells #[.string a0_0, .int .i64 a0_1, .int .i64 a0_2, .int .i64 a0_3, .slice A0_4 l0_4.length c0_4, .int .i64 a0_5, .slice A0_6 l0_6.length c0_6, .slice A0_7 l0_7.length c0_7] 130 (0, 0)) kz) : gb795 ≠ gb796)); have n6_ := Aside0.mk ((by rw [hg]; exact Nat.ne_of_gt (blk_lt (g := gb795) (o := .cells #[.string a0_0, .int .i64 a0_1, .int .i64 a0_2, .int .i64 a0_3, .slice A0_4 l0_4.length c0_4, .int .i64 a0_5, .slice A0_6 l0_6.length c0_6, .slice A0_7 l0_7.length c0_7] 130 (0, 0)) kz) : gb796 ≠ gb795)); clear BK795; clear HB; have BK795 := n0_; have HB := n1_; have BK796 := n2_; have GW796 := n3_; have GE796 := n4_; have NB795_796 := n5_; have NB796_795 := n6_; clear n0_ n1_ n2_ n3_ n4_ n5_ n6_; clear hb hbox hg; have hnb43 := NB795_796.out; have hnc43 := NB796_795.out; have hcz44_0 : w42.cell? ⟨gb795, 0, none⟩ = some (.string a0_0) := (blk_cell BK795.out 0).trans rfl; have hcz44_1 : w42.cell? ⟨gb795, 1, none⟩ = some (.int .i64 a0_1) := (blk_cell BK795.out 1).trans rfl; have hcz44_2 : w42.cell? ⟨gb795, 2, none⟩ = some (.int .i64 a0_2) := (blk_cell BK795.out 2).trans rfl; have hcz44_3 : w42.cell? ⟨gb795, 3, none⟩ = some (.int .i64 a0_3) := (blk_cell BK795.out 3).trans rfl; have hcz44_4 : w42.cell? ⟨gb795, 4, none⟩ = some (.slice A0_4 l0_4.length c0_4) := (blk_cell BK795.out 4).trans rfl; have hcz44_5 : w42.cell? ⟨gb795, 5, none⟩ = some (.int .i64 a0_5) := (blk_cell BK795.out 5).trans rfl; have hcz44_6 : w42.cell? ⟨gb795, 6, none⟩ = some (.slice A0_6 l0_6.length c0_6) := (blk_cell BK795.out 6).trans rfl; have hcz44_7 : w42.cell? ⟨gb795, 7, none⟩ = some (.slice A0_7 l0_7.length c0_7) := (blk_cell BK795.out 7).trans rfl; have hfz44_0 := blk_frozen BK795.out 0; have hfz44_1 := blk_frozen BK795.out 1; have hfz44_2 := blk_frozen BK795.out 2; have hfz44_3 := blk_frozen BK795.out 3; have hfz44_4 := blk_frozen BK795.out 4; have hfz44_5 := blk_frozen BK795.out 5; have hfz44_6 := blk_frozen BK795.out 6; have hfz44_7 := blk_frozen BK795.out 7; have hcz45_0 : w42.cell? ⟨gb796, 0, none⟩ = some (.string a1_0) := (blk_cell BK796.out 0).trans rfl; have hcz45_1 : w42.cell? ⟨gb796, 1, none⟩ = some (.int .i64 a1_1) := (blk_cell BK796.out 1).trans rfl; have hcz45_2 : w42.cell? ⟨gb796, 2, none⟩ = some (.int .i64 a1_2) := (blk_cell BK796.out 2).trans rfl; have hcz45_3 : w42.cell? ⟨gb796, 3, none⟩ = some (.int .i64 a1_3) := (blk_cell BK796.out 3).trans rfl; have hcz45_4 : w42.cell? ⟨gb796, 4, none⟩ = some (.slice A1_4 l1_4.length c1_4) := (blk_cell BK796.out 4).trans rfl; have hcz45_5 : w42.cell? ⟨gb796, 5, none⟩ = some (.int .i64 a1_5) := (blk_cell BK796.out 5).trans rfl; have hcz45_6 : w42.cell? ⟨gb796, 6, none⟩ = some (.slice A1_6 l1_6.length c1_6) := (blk_cell BK796.out 6).trans rfl; have hcz45_7 : w42.cell? ⟨gb796, 7, none⟩ = some (.slice A1_7 l1_7.length c1_7) := (blk_cell BK796.out 7).trans rfl; have hfz45_0 := blk_frozen BK796.out 0; have hfz45_1 := blk_frozen BK796.out 1; have hfz45_2 := blk_frozen BK796.out 2; have hfz45_3 := blk_frozen BK796.out 3; have hfz45_4 := blk_frozen BK796.out 4; have hfz45_5 := blk_frozen BK796.out 5; have hfz45_6 := blk_frozen BK796.out 6; have hfz45_7 := blk_frozen BK796.out 7))
         go_ret
         exact ⟨by first | rfl | (simp [errW_none, errW_some] <;> rfl) | (simp [*, errW_none, errW_some] <;> rfl), bz⟩
     · rw [if_neg c5] at H
       have c5b0 : (a0_2 == a1_2) = false := beq_eq_false_iff_ne.mpr c5
       have c5b1 : (a0_2 != a1_2) = true := bne_iff_ne.mpr c5
       obtain rfl := Option.some.inj H
       go_enter Try.func146, Try.ntmps146
       go_wp2_with (first | ((with_reducible refine gate_dst (N := 2) rfl ?_); refine box_event ?hg (N := 2) ?hd (cs := #[.string a0_0, .int .i64 a0_1, .int .i64 a0_2, .int .i64 a0_3, .slice A0_4 l0_4.length c0_4, .int .i64 a0_5, .slice A0_6 l0_6.length c0_6, .slice A0_7 l0_7.length c0_7]) (t := 130) ?hr ?_; (case hd => rfl); (case hg => rfl); (case hr => first | (go_simp; done) | (go_simp; rfl)); intro gb795 hg w46 hbox hb; have n0_ := Aside0.mk (below_step bz hb); have n1_ := Aside0.mk (hbox); have n2_ := Aside0.mk ((by rw [hg]; exact (below_size bz) : w.heap.size ≤ gb795)); have n3_ := Aside0.mk ((by rw [hg]; exact (below_size bz) : w.heap.size ≤ gb795)); clear HB; have HB := n0_; have BK795 := n1_; have GW795 := n2_; have GE795 := n3_; clear n0_ n1_ n2_ n3_; clear hb hbox hg) | ((with_reducible refine gate_dst (N := 3) rfl ?_); refine box_event ?hg (N := 3) ?hd (cs := #[.string a1_0, .int .i64 a1_1, .int .i64 a1_2, .int .i64 a1_3, .slice A1_4 l1_4.length c1_4, .int .i64 a1_5, .slice A1_6 l1_6.length c1_6, .slice A1_7 l1_7.length c1_7]) (t := 130) ?hr ?_; (case hd => rfl); (case hg => rfl); (case hr => first | (go_simp; done) | (go_simp; rfl)); intro gb796 hg w47 hbox hb; have n0_ := Aside0.mk (blk_below (g := gb795) (o := .cells #[.string a0_0, .int .i64 a0_1, .int .i64 a0_2, .int .i64 a0_3, .slice A0_4 l0_4.length c0_4, .int .i64 a0_5, .slice A0_6 l0_6.length c0_6, .slice A0_7 l0_7.length c0_7] 130 (0, 0)) kz hb); have n1_ := Aside0.mk (below_step bz hb); have n2_ := Aside0.mk (hbox); have n3_ := Aside0.mk ((by rw [hg]; exact (below_size bz) : w.heap.size ≤ gb796)); have n4_ := Aside0.mk ((by rw [hg]; exact (below_size bz) : w.heap.size ≤ gb796)); have n5_ := Aside0.mk ((by rw [hg]; exact Nat.ne_of_lt (blk_lt (g := gb795) (o := .cells #[.string a0_0, .int .i64 a0_1, .int .i64 a0_2, .int .i64 a0_3, .slice A0_4 l0_4.length c0_4, .int .i64 a0_5, .slice A0_6 l0_6.length c0_6, .slice A0_7 l0_7.length c0_7] 130 (0, 0)) kz) : gb795 ≠ gb796)); have n6_ := Aside0.mk ((by rw [hg]; exact Nat.ne_of_gt (blk_lt (g := gb795) (o := .cells #[.string a0_0, .int .i64 a0_1, .int .i64 a0_2, .int .i64 a0_3, .slice A0_4 l0_4.length c0_4, .int .i64 a0_5, .slice A0_6 l0_6.length c0_6, .slice A0_7 l0_7.length c0_7] 130 (0, 0)) kz) : gb796 ≠ gb795)); clear BK795; clear HB; have BK795 := n0_; have HB := n1_; have BK796 := n2_; have GW796 := n3_; have GE796 := n4_; have NB795_796 := n5_; have NB796_795 := n6_; clear n0_ n1_ n2_ n3_ n4_ n5_ n6_; clear hb hbox hg; have hnb48 := NB795_796.out; have hnc48 := NB796_795.out; have hcz49_0 : w47.cell? ⟨gb795, 0, none⟩ = some (.string a0_0) := (blk_cell BK795.out 0).trans rfl; have hcz49_1 : w47.cell? ⟨gb795, 1, none⟩ = some (.int .i64 a0_1) := (blk_cell BK795.out 1).trans rfl; have hcz49_2 : w47.cell? ⟨gb795, 2, none⟩ = some (.int .i64 a0_2) := (blk_cell BK795.out 2).trans rfl; have hcz49_3 : w47.cell? ⟨gb795, 3, none⟩ = some (.int .i64 a0_3) := (blk_cell BK795.out 3).trans rfl; have hcz49_4 : w47.cell? ⟨gb795, 4, none⟩ = some (.slice A0_4 l0_4.length c0_4) := (blk_cell BK795.out 4).trans rfl; have hcz49_5 : w47.cell? ⟨gb795, 5, none⟩ = some (.int .i64 a0_5) := (blk_cell BK795.out 5).trans rfl; have hcz49_6 : w47.cell? ⟨gb795, 6, none⟩ = some (.slice A0_6 l0_6.length c0_6) := (blk_cell BK795.out 6).trans rfl; have hcz49_7 : w47.cell? ⟨gb795, 7, none⟩ = some (.slice A0_7 l0_7.length c0_7) := (blk_cell BK795.out 7).trans rfl; have hfz49_0 := blk_frozen BK795.out 0; have hfz49_1 := blk_frozen BK795.out 1; have hfz49_2 := blk_frozen BK795.out 2; have hfz49_3 := blk_frozen BK795.out 3; have hfz49_4 := blk_frozen BK795.out 4; have hfz49_5 := blk_frozen BK795.out 5; have hfz49_6 := blk_frozen BK795.out 6; have hfz49_7 := blk_frozen BK795.out 7; have hcz50_0 : w47.cell? ⟨gb796, 0, none⟩ = some (.string a1_0) := (blk_cell BK796.out 0).trans rfl; have hcz50_1 : w47.cell? ⟨gb796, 1, none⟩ = some (.int .i64 a1_1) := (blk_cell BK796.out 1).trans rfl; have hcz50_2 : w47.cell? ⟨gb796, 2, none⟩ = some (.int .i64 a1_2) := (blk_cell BK796.out 2).trans rfl; have hcz50_3 : w47.cell? ⟨gb796, 3, none⟩ = some (.int .i64 a1_3) := (blk_cell BK796.out 3).trans rfl; have hcz50_4 : w47.cell? ⟨gb796, 4, none⟩ = some (.slice A1_4 l1_4.length c1_4) := (blk_cell BK796.out 4).trans rfl; have hcz50_5 : w47.cell? ⟨gb796, 5, none⟩ = some (.int .i64 a1_5) := (blk_cell BK796.out 5).trans rfl; have hcz50_6 : w47.cell? ⟨gb796, 6, none⟩ = some (.slice A1_6 l1_6.length c1_6) := (blk_cell BK796.out 6).trans rfl; have hcz50_7 : w47.cell? ⟨gb796, 7, none⟩ = some (.slice A1_7 l1_7.length c1_7) := (blk_cell BK796.out 7).trans rfl; have hfz50_0 := blk_frozen BK796.out 0; have hfz50_1 := blk_frozen BK796.out 1; have hfz50_2 := blk_frozen BK796.out 2; have hfz50_3 := blk_frozen BK796.out 3; have hfz50_4 := blk_frozen BK796.out 4; have hfz50_5 := blk_frozen BK796.out 5; have hfz50_6 := blk_frozen BK796.out 6; have hfz50_7 := blk_frozen BK796.out 7))
       go_ret
       exact ⟨by first | rfl | (simp [errW_none, errW_some] <;> rfl) | (simp [*, errW_none, errW_some] <;> rfl), bz⟩
   · rw [if_neg c4] at H
     have c4b0 : (a0_1 == a1_1) = false := beq_eq_false_iff_ne.mpr c4
     have c4b1 : (a0_1 != a1_1) = true := bne_iff_ne.mpr c4
     obtain rfl := Option.some.inj H
     go_enter Try.func146, Try.ntmps146
     go_wp2_with (first | ((with_reducible refine gate_dst (N := 2) rfl ?_); refine box_event ?hg (N := 2) ?hd (cs := #[.string a0_0, .int .i64 a0_1, .int .i64 a0_2, .int .i64 a0_3, .slice A0_4 l0_4.length c0_4, .int .i64 a0_5, .slice A0_6 l0_6.length c0_6, .slice A0_7 l0_7.length c0_7]) (t := 130) ?hr ?_; (case hd => rfl); (case hg => rfl); (case hr => first | (go_simp; done) | (go_simp; rfl)); intro gb795 hg w51 hbox hb; have n0_ := Aside0.mk (below_step bz hb); have n1_ := Aside0.mk (hbox); have n2_ := Aside0.mk ((by rw [hg]; exact (below_size bz) : w.heap.size ≤ gb795)); have n3_ := Aside0.mk ((by rw [hg]; exact (below_size bz) : w.heap.size ≤ gb795)); clear HB; have HB := n0_; have BK795 := n1_; have GW795 := n2_; have GE795 := n3_; clear n0_ n1_ n2_ n3_; clear hb hbox hg) | ((with_reducible refine gate_dst (N := 3) rfl ?_); refine box_event ?hg (N := 3) ?hd (cs := #[.string a1_0, .int .i64 a1_1, .int .i64 a1_2, .int .i64 a1_3, .slice A1_4 l1_4.length c1_4, .int .i64 a1_5, .slice A1_6 l1_6.length c1_6, .slice A1_7 l1_7.length c1_7]) (t := 130) ?hr ?_; (case hd => rfl); (case hg => rfl); (case hr => first | (go_simp; done) | (go_simp; rfl)); intro gb796 hg w52 hbox hb; have n0_ := Aside0.mk (blk_below (g := gb795) (o := .cells #[.string a0_0, .int .i64 a0_1, .int .i64 a0_2, .int .i64 a0_3, .slice A0_4 l0_4.length c0_4, .int .i64 a0_5, .slice A0_6 l0_6.length c0_6, .slice A0_7 l0_7.length c0_7] 130 (0, 0)) kz hb); have n1_ := Aside0.mk (below_step bz hb); have n2_ := Aside0.mk (hbox); have n3_ := Aside0.mk ((by rw [hg]; exact (below_size bz) : w.heap.size ≤ gb796)); have n4_ := Aside0.mk ((by rw [hg]; exact (below_size bz) : w.heap.size ≤ gb796)); have n5_ := Aside0.mk ((by rw [hg]; exact Nat.ne_of_lt (blk_lt (g := gb795) (o := .cells #[.string a0_0, .int .i64 a0_1, .int .i64 a0_2, .int .i64 a0_3, .slice A0_4 l0_4.length c0_4, .int .i64 a0_5, .slice A0_6 l0_6.length c0_6, .slice A0_7 l0_7.length c0_7] 130 (0, 0)) kz) : gb795 ≠ gb796)); have n6_ := Aside0.mk ((by rw [hg]; exact Nat.ne_of_gt (blk_lt (g := gb795) (o := .cells #[.string a0_0, .int .i64 a0_1, .int .i64 a0_2, .int .i64 a0_3, .slice A0_4 l0_4.length c0_4, .int .i64 a0_5, .slice A0_6 l0_6.length c0_6, .slice A0_7 l0_7.length c0_7] 130 (0, 0)) kz) : gb796 ≠ gb795)); clear BK795; clear HB; have BK795 := n0_; have HB := n1_; have BK796 := n2_; have GW796 := n3_; have GE796 := n4_; have NB795_796 := n5_; have NB796_795 := n6_; clear n0_ n1_ n2_ n3_ n4_ n5_ n6_; clear hb hbox hg; have hnb53 := NB795_796.out; have hnc53 := NB796_795.out; have hcz54_0 : w52.cell? ⟨gb795, 0, none⟩ = some (.string a0_0) := (blk_cell BK795.out 0).trans rfl; have hcz54_1 : w52.cell? ⟨gb795, 1, none⟩ = some (.int .i64 a0_1) := (blk_cell BK795.out 1).trans rfl; have hcz54_2 : w52.cell? ⟨gb795, 2, none⟩ = some (.int .i64 a0_2) := (blk_cell BK795.out 2).trans rfl; have hcz54_3 : w52.cell? ⟨gb795, 3, none⟩ = some (.int .i64 a0_3) := (blk_cell BK795.out 3).trans rfl; have hcz54_4 : w52.cell? ⟨gb795, 4, none⟩ = some (.slice A0_4 l0_4.length c0_4) := (blk_cell BK795.out 4).trans rfl; have hcz54_5 : w52.cell? ⟨gb795, 5, none⟩ = some (.int .i64 a0_5) := (blk_cell BK795.out 5).trans rfl; have hcz54_6 : w52.cell? ⟨gb795, 6, none⟩ = some (.slice A0_6 l0_6.length c0_6) := (blk_cell BK795.out 6).trans rfl; have hcz54_7 : w52.cell? ⟨gb795, 7, none⟩ = some (.slice A0_7 l0_7.length c0_7) := (blk_cell BK795.out 7).trans rfl; have hfz54_0 := blk_frozen BK795.out 0; have hfz54_1 := blk_frozen BK795.out 1; have hfz54_2 := blk_frozen BK795.out 2; have hfz54_3 := blk_frozen BK795.out 3; have hfz54_4 := blk_frozen BK795.out 4; have hfz54_5 := blk_frozen BK795.out 5; have hfz54_6 := blk_frozen BK795.out 6; have hfz54_7 := blk_frozen BK795.out 7; have hcz55_0 : w52.cell? ⟨gb796, 0, none⟩ = some (.string a1_0) := (blk_cell BK796.out 0).trans rfl; have hcz55_1 : w52.cell? ⟨gb796, 1, none⟩ = some (.int .i64 a1_1) := (blk_cell BK796.out 1).trans rfl; have hcz55_2 : w52.cell? ⟨gb796, 2, none⟩ = some (.int .i64 a1_2) := (blk_cell BK796.out 2).trans rfl; have hcz55_3 : w52.cell? ⟨gb796, 3, none⟩ = some (.int .i64 a1_3) := (blk_cell BK796.out 3).trans rfl; have hcz55_4 : w52.cell? ⟨gb796, 4, none⟩ = some (.slice A1_4 l1_4.length c1_4) := (blk_cell BK796.out 4).trans rfl; have hcz55_5 : w52.cell? ⟨gb796, 5, none⟩ = some (.int .i64 a1_5) := (blk_cell BK796.out 5).trans rfl; have hcz55_6 : w52.cell? ⟨gb796, 6, none⟩ = some (.slice A1_6 l1_6.length c1_6) := (blk_cell BK796.out 6).trans rfl; have hcz55_7 : w52.cell? ⟨gb796, 7, none⟩ = some (.slice A1_7 l1_7.length c1_7) := (blk_cell BK796.out 7).trans rfl; have hfz55_0 := blk_frozen BK796.out 0; have hfz55_1 := blk_frozen BK796.out 1; have hfz55_2 := blk_frozen BK796.out 2; have hfz55_3 := blk_frozen BK796.out 3; have hfz55_4 := blk_frozen BK796.out 4; have hfz55_5 := blk_frozen BK796.out 5; have hfz55_6 := blk_frozen BK796.out 6; have hfz55_7 := blk_frozen BK796.out 7))
     go_ret
     exact ⟨by first | rfl | (simp [errW_none, errW_some] <;> rfl) | (simp [*, errW_none, errW_some] <;> rfl), bz⟩
 · rw [if_neg c3] at H
   have c3b0 : (a0_0.toList == a1_0.toList) = false := beq_eq_false_iff_ne.mpr c3
   have c3b1 : (a0_0.toList != a1_0.toList) = true := bne_iff_ne.mpr c3
   obtain rfl := Option.some.inj H
   go_enter Try.func146, Try.ntmps146
   go_wp2_with (first | ((with_reducible refine gate_dst (N := 2) rfl ?_); refine box_event ?hg (N := 2) ?hd (cs := #[.string a0_0, .int .i64 a0_1, .int .i64 a0_2, .int .i64 a0_3, .slice A0_4 l0_4.length c0_4, .int .i64 a0_5, .slice A0_6 l0_6.length c0_6, .slice A0_7 l0_7.length c0_7]) (t := 130) ?hr ?_; (case hd => rfl); (case hg => rfl); (case hr => first | (go_simp; done) | (go_simp; rfl)); intro gb795 hg w56 hbox hb; have n0_ := Aside0.mk (below_step bz hb); have n1_ := Aside0.mk (hbox); have n2_ := Aside0.mk ((by rw [hg]; exact (below_size bz) : w.heap.size ≤ gb795)); have n3_ := Aside0.mk ((by rw [hg]; exact (below_size bz) : w.heap.size ≤ gb795)); clear HB; have HB := n0_; have BK795 := n1_; have GW795 := n2_; have GE795 := n3_; clear n0_ n1_ n2_ n3_; clear hb hbox hg) | ((with_reducible refine gate_dst (N := 3) rfl ?_); refine box_event ?hg (N := 3) ?hd (cs := #[.string a1_0, .int .i64 a1_1, .int .i64 a1_2, .int .i64 a1_3, .slice A1_4 l1_4.length c1_4, .int .i64 a1_5, .slice A1_6 l1_6.length c1_6, .slice A1_7 l1_7.length c1_7]) (t := 130) ?hr ?_; (case hd => rfl); (case hg => rfl); (case hr => first | (go_simp; done) | (go_simp; rfl)); intro gb796 hg w57 hbox hb; have n0_ := Aside0.mk (blk_below (g := gb795) (o := .cells #[.string a0_0, .int .i64 a0_1, .int .i64 a0_2, .int .i64 a0_3, .slice A0_4 l0_4.length c0_4, .int .i64 a0_5, .slice A0_6 l0_6.length c0_6, .slice A0_7 l0_7.length c0_7] 130 (0, 0)) kz hb); have n1_ := Aside0.mk (below_step bz hb); have n2_ := Aside0.mk (hbox); have n3_ := Aside0.mk ((by rw [hg]; exact (below_size bz) : w.heap.size ≤ gb796)); have n4_ := Aside0.mk ((by rw [hg]; exact (below_size bz) : w.heap.size ≤ gb796)); have n5_ := Aside0.mk ((by rw [hg]; exact Nat.ne_of_lt (blk_lt (g := gb795) (o := .cells #[.string a0_0, .int .i64 a0_1, .int .i64 a0_2, .int .i64 a0_3, .slice A0_4 l0_4.length c0_4, .int .i64 a0_5, .slice A0_6 l0_6.length c0_6, .slice A0_7 l0_7.length c0_7] 130 (0, 0)) kz) : gb795 ≠ gb796)); have n6_ := Aside0.mk ((by rw [hg]; exact Nat.ne_of_gt (blk_lt (g := gb795) (o := .cells #[.string a0_0, .int .i64 a0_1, .int .i64 a0_2, .int .i64 a0_3, .slice A0_4 l0_4.length c0_4, .int .i64 a0_5, .slice A0_6 l0_6.length c0_6, .slice A0_7 l0_7.length c0_7] 130 (0, 0)) kz) : gb796 ≠ gb795)); clear BK795; clear HB; have BK795 := n0_; have HB := n1_; have BK796 := n2_; have GW796 := n3_; have GE796 := n4_; have NB795_796 := n5_; have NB796_795 := n6_; clear n0_ n1_ n2_ n3_ n4_ n5_ n6_; clear hb hbox hg; have hnb58 := NB795_796.out; have hnc58 := NB796_795.out; have hcz59_0 : w57.cell? ⟨gb795, 0, none⟩ = some (.string a0_0) := (blk_cell BK795.out 0).trans rfl; have hcz59_1 : w57.cell? ⟨gb795, 1, none⟩ = some (.int .i64 a0_1) := (blk_cell BK795.out 1).trans rfl; have hcz59_2 : w57.cell? ⟨gb795, 2, none⟩ = some (.int .i64 a0_2) := (blk_cell BK795.out 2).trans rfl; have hcz59_3 : w57.cell? ⟨gb795, 3, none⟩ = some (.int .i64 a0_3) := (blk_cell BK795.out 3).trans rfl; have hcz59_4 : w57.cell? ⟨gb795, 4, none⟩ = some (.slice A0_4 l0_4.length c0_4) := (blk_cell BK795.out 4).trans rfl; have hcz59_5 : w57.cell? ⟨gb795, 5, none⟩ = some (.int .i64 a0_5) := (blk_cell BK795.out 5).trans rfl; have hcz59_6 : w57.cell? ⟨gb795, 6, none⟩ = some (.slice A0_6 l0_6.length c0_6) := (blk_cell BK795.out 6).trans rfl; have hcz59_7 : w57.cell? ⟨gb795, 7, none⟩ = some (.slice A0_7 l0_7.length c0_7) := (blk_cell BK795.out 7).trans rfl; have hfz59_0 := blk_frozen BK795.out 0; have hfz59_1 := blk_frozen BK795.out 1; have hfz59_2 := blk_frozen BK795.out 2; have hfz59_3 := blk_frozen BK795.out 3; have hfz59_4 := blk_frozen BK795.out 4; have hfz59_5 := blk_frozen BK795.out 5; have hfz59_6 := blk_frozen BK795.out 6; have hfz59_7 := blk_frozen BK795.out 7; have hcz60_0 : w57.cell? ⟨gb796, 0, none⟩ = some (.string a1_0) := (blk_cell BK796.out 0).trans rfl; have hcz60_1 : w57.cell? ⟨gb796, 1, none⟩ = some (.int .i64 a1_1) := (blk_cell BK796.out 1).trans rfl; have hcz60_2 : w57.cell? ⟨gb796, 2, none⟩ = some (.int .i64 a1_2) := (blk_cell BK796.out 2).trans rfl; have hcz60_3 : w57.cell? ⟨gb796, 3, none⟩ = some (.int .i64 a1_3) := (blk_cell BK796.out 3).trans rfl; have hcz60_4 : w57.cell? ⟨gb796, 4, none⟩ = some (.slice A1_4 l1_4.length c1_4) := (blk_cell BK796.out 4).trans rfl; have hcz60_5 : w57.cell? ⟨gb796, 5, none⟩ = some (.int .i64 a1_5) := (blk_cell BK796.out 5).trans rfl; have hcz60_6 : w57.cell? ⟨gb796, 6, none⟩ = some (.slice A1_6 l1_6.length c1_6) := (blk_cell BK796.out 6).trans rfl; have hcz60_7 : w57.cell? ⟨gb796, 7, none⟩ = some (.slice A1_7 l1_7.length c1_7) := (blk_cell BK796.out 7).trans rfl; have hfz60_0 := blk_frozen BK796.out 0; have hfz60_1 := blk_frozen BK796.out 1; have hfz60_2 := blk_frozen BK796.out 2; have hfz60_3 := blk_frozen BK796.out 3; have hfz60_4 := blk_frozen BK796.out 4; have hfz60_5 := blk_frozen BK796.out 5; have hfz60_6 := blk_frozen BK796.out 6; have hfz60_7 := blk_frozen BK796.out 7))
   go_ret
   exact ⟨by first | rfl | (simp [errW_none, errW_some] <;> rfl) | (simp [*, errW_none, errW_some] <;> rfl), bz⟩

set_option linter.unusedVariables false
set_option linter.unusedSimpArgs false

def laws_eqSectionS.l0 : Nat → List (S130) → List (S130) → Int → Option (Bool)
 | 0, _, _, _ => none
 | k + 1, x0, x1, x5 => if x5 < (x0.length : Int) then (if 0 ≤ x5 then (if x5 < (x1.length : Int) then ((laws_eqSection.f k ((rd_T130 x0 x5).f0) ((rd_T130 x0 x5).f1) ((rd_T130 x0 x5).f2) ((rd_T130 x0 x5).f3) ((rd_T130 x0 x5).f4) ((rd_T130 x0 x5).f5) ((rd_T130 x0 x5).f6) ((rd_T130 x0 x5).f7) ((rd_T130 x1 x5).f0) ((rd_T130 x1 x5).f1) ((rd_T130 x1 x5).f2) ((rd_T130 x1 x5).f3) ((rd_T130 x1 x5).f4) ((rd_T130 x1 x5).f5) ((rd_T130 x1 x5).f6) ((rd_T130 x1 x5).f7)).bind fun t802 => (if t802 = true then (laws_eqSectionS.l0 k x0 x1 (wrap64 (x5 + 1))) else (some false))) else (none)) else (none)) else (some true)
def laws_eqSectionS.f (k : Nat) (l0 : List (S130)) (l1 : List (S130)) : Option (Bool) := if (l0.length : Int) = (l1.length : Int) then (laws_eqSectionS.l0 k l0 l1 0) else (some false)
def laws_eqSectionS.T6 : Bool × List (List Nat × List Nat) := (true, [([], []), ([], []), ([0, 1], [0, 1]), ([2], [2]), ([], []), ([], []), ([4, 5], [4, 5]), ([6], [6]), ([3, 7], [3, 7]), ([8], [8])])
def laws_eqSectionS.B6 : List Nat := [0, 0, 3, 7, 0, 0, 48, 112, 255, 511]
theorem laws_eqSectionS.tab6 : rtab .any (opsOf Try.f104 6) = laws_eqSectionS.T6 := by kernel_rfl
theorem laws_eqSectionS.bits6 : waitsOk laws_eqSectionS.T6.2 laws_eqSectionS.B6 = true := by kernel_rfl
set_option maxHeartbeats 8000000 in
set_option maxRecDepth 100000 in
theorem laws_eqSectionS.calls (k : Nat) (A0 : Option Addr) (c0 : Nat) (l0 : List (S130)) (A1 : Option Addr) (c1 : Nat) (l1 : List (S130)) (r : Bool) (w : World) (hr0 : Kd.C k130 w A0 l0.length l0) (hc0 : l0.length ≤ c0) (hr1 : Kd.C k130 w A1 l1.length l1) (hc1 : l1.length ≤ c1) (h : laws_eqSectionS.f k l0 l1 = some r) :
 Calls Try.prog 104 #[.slice A0 l0.length c0, .slice A1 l1.length c1] w fun e w' => e = .returned (.bool r) ∧ Below w.heap.size w w' := by
 have hu130 := Try.underlying130
 have HR0 := Aside0.mk hr0
 have HC0 := Aside0.mk hc0
 clear hr0 hc0
 have HR1 := Aside0.mk hr1
 have HC1 := Aside0.mk hc1
 clear hr1 hc1
 have HB := Aside0.mk (Below.refl w.heap.size w)
 have H : (if (l0.length : Int) = (l1.length : Int) then (laws_eqSectionS.l0 k l0 l1 0) else (some false)) = some r := h
 clear h
 by_cases c3 : (l0.length : Int) = (l1.length : Int)
 · rw [if_pos c3] at H
   have c3b0 : ((l0.length : Int) == (l1.length : Int)) = true := beq_iff_eq.mpr c3
   have c3b1 : ((l0.length : Int) != (l1.length : Int)) = false := bne_eq_false_iff_eq.mpr c3
   have c3b2 : (l0.length == l1.length) = true := by first | simpa using c3 | (simp at c3 ⊢; omega)
   clear c3
   have H' := Aside0.mk H
   clear H
   go_enter Try.func104, Try.ntmps104
   go_wp2
   go_loopg [5] k (fun kq v5 w' => ∃ (x5_1 : Int), v5 = .int .i64 x5_1 ∧ Aside0 (laws_eqSectionS.l0 kq l0 l1 x5_1 = some r) ∧ Aside0 (kq ≤ k) ∧ Aside0 (Below w.heap.size w w'))
   case atStart => exact ⟨(0), sz_, H', ⟨Nat.le_refl _⟩, ⟨ bz⟩⟩
   case round =>
    clear H'
    try clear c1
    try clear p2
    try clear c3
    try clear c3b0
    try clear c3b1
    try clear c3b2
    obtain ⟨x5_1, rfl, HA, HK1, HB⟩ := hrel
    cases gk with
    | zero => exact absurd HA.out (by simp [laws_eqSectionS.l0])
    | succ k1 =>
     have H := HA.out
     clear HA
     simp only [laws_eqSectionS.l0] at H
     by_cases c4 : x5_1 < (l0.length : Int)
     · rw [if_pos c4] at H
       have c4b0 : decide (x5_1 < (l0.length : Int)) = true := decide_eq_true c4
       clear c4
       by_cases c5 : 0 ≤ x5_1
       · rw [if_pos c5] at H
         have c5b0 : decide (0 ≤ x5_1) = true := decide_eq_true c5
         clear c5
         by_cases c6 : x5_1 < (l1.length : Int)
         · rw [if_pos c6] at H
           have c6b0 : decide (x5_1 < (l1.length : Int)) = true := decide_eq_true c6
           clear c6
           replace H := Option.bind_eq_some_iff.mp H
           obtain ⟨t802, A70, H⟩ := H
           replace H : (if t802 = true then (laws_eqSectionS.l0 k1 l0 l1 (wrap64 (x5_1 + 1))) else (some false)) = some r := H
           have A7 := Aside0.mk A70
           clear A70
           by_cases c8 : t802 = true
           · subst c8
             have H1 : (laws_eqSectionS.l0 k1 l0 l1 (wrap64 (x5_1 + 1))) = some r := by rw [if_pos rfl] at H; exact H
             clear H
             have H := H1
             clear H1
             have H' := Aside0.mk H
             clear H
             try go_wp2
             have n0_ := Aside0.mk (below_drew1 HB.out)
             clear HB
             have HB := n0_
             clear n0_
             have p800 : 0 ≤ (x5_1 : Int) := of_decide_eq_true az
             have q800 : x5_1 < (l0.length : Int) := of_decide_eq_true az
             obtain ⟨ad800, A800_4, c800_4, A800_6, c800_6, A800_7, c800_7, e800, hx800_0, hx800_1, hx800_2, hx800_3, hx800_4, hx800_5, hx800_6, hx800_7, hl800_4, hi800_4, hl800_6, hi800_6, hl800_7, hi800_7⟩ := at_T130 HR0.out x5_1 p800 q800
             have hw800_7 := hx800_7
             have hw800_6 := hx800_6
             have hw800_5 := hx800_5
             have hw800_4 := hx800_4
             have hw800_3 := hx800_3
             have hw800_2 := hx800_2
             have hw800_1 := hx800_1
             have hw800_0 := hx800_0
             cases e800
             replace hx800_0 := ck HB hx800_0
             replace hx800_1 := ck HB hx800_1
             replace hx800_2 := ck HB hx800_2
             replace hx800_3 := ck HB hx800_3
             replace hx800_4 := ck HB hx800_4
             replace hx800_5 := ck HB hx800_5
             replace hx800_6 := ck HB hx800_6
             replace hx800_7 := ck HB hx800_7
             have HR800_4 := Aside0.mk hi800_4
             have HC800_4 := Aside0.mk hl800_4
             clear hi800_4 hl800_4
             have HR800_6 := Aside0.mk hi800_6
             have HC800_6 := Aside0.mk hl800_6
             clear hi800_6 hl800_6
             have HR800_7 := Aside0.mk hi800_7
             have HC800_7 := Aside0.mk hl800_7
             clear hi800_7 hl800_7
             replace p800 := eq_true p800
             replace q800 := eq_true q800
             have p801 : 0 ≤ (x5_1 : Int) := of_decide_eq_true az
             have q801 : x5_1 < (l1.length : Int) := of_decide_eq_true az
             obtain ⟨ad801, A801_4, c801_4, A801_6, c801_6, A801_7, c801_7, e801, hx801_0, hx801_1, hx801_2, hx801_3, hx801_4, hx801_5, hx801_6, hx801_7, hl801_4, hi801_4, hl801_6, hi801_6, hl801_7, hi801_7⟩ := at_T130 HR1.out x5_1 p801 q801
             have hw801_7 := hx801_7
             have hw801_6 := hx801_6
             have hw801_5 := hx801_5
             have hw801_4 := hx801_4
             have hw801_3 := hx801_3
             have hw801_2 := hx801_2
             have hw801_1 := hx801_1
             have hw801_0 := hx801_0
             cases e801
             replace hx801_0 := ck HB hx801_0
             replace hx801_1 := ck HB hx801_1
             replace hx801_2 := ck HB hx801_2
             replace hx801_3 := ck HB hx801_3
             replace hx801_4 := ck HB hx801_4
             replace hx801_5 := ck HB hx801_5
             replace hx801_6 := ck HB hx801_6
             replace hx801_7 := ck HB hx801_7
             have HR801_4 := Aside0.mk hi801_4
             have HC801_4 := Aside0.mk hl801_4
             clear hi801_4 hl801_4
             have HR801_6 := Aside0.mk hi801_6
             have HC801_6 := Aside0.mk hl801_6
             clear hi801_6 hl801_6
             have HR801_7 := Aside0.mk hi801_7
             have HC801_7 := Aside0.mk hl801_7
             clear hi801_7 hl801_7
             replace p801 := eq_true p801
             replace q801 := eq_true q801
             refine start_ (n := 10) (S := fun w' => w'.cell? (ad800.add ((x5_1).toNat * 8)) = some (.string ((rd_T130 l0 x5_1).f0)) ∧ w'.cell? ⟨(ad800.add ((x5_1).toNat * 8)).block, (ad800.add ((x5_1).toNat * 8)).off + 1, none⟩ = some (.int .i64 ((rd_T130 l0 x5_1).f1)) ∧ w'.cell? ⟨(ad800.add ((x5_1).toNat * 8)).block, (ad800.add ((x5_1).toNat * 8)).off + 2, none⟩ = some (.int .i64 ((rd_T130 l0 x5_1).f2)) ∧ w'.cell? ⟨(ad800.add ((x5_1).toNat * 8)).block, (ad800.add ((x5_1).toNat * 8)).off + 3, none⟩ = some (.int .i64 ((rd_T130 l0 x5_1).f3)) ∧ w'.cell? ⟨(ad800.add ((x5_1).toNat * 8)).block, (ad800.add ((x5_1).toNat * 8)).off + 4, none⟩ = some (.slice A800_4 ((rd_T130 l0 x5_1).f4).length c800_4) ∧ w'.cell? ⟨(ad800.add ((x5_1).toNat * 8)).block, (ad800.add ((x5_1).toNat * 8)).off + 5, none⟩ = some (.int .i64 ((rd_T130 l0 x5_1).f5)) ∧ w'.cell? ⟨(ad800.add ((x5_1).toNat * 8)).block, (ad800.add ((x5_1).toNat * 8)).off + 6, none⟩ = some (.slice A800_6 ((rd_T130 l0 x5_1).f6).length c800_6) ∧ w'.cell? ⟨(ad800.add ((x5_1).toNat * 8)).block, (ad800.add ((x5_1).toNat * 8)).off + 7, none⟩ = some (.slice A800_7 ((rd_T130 l0 x5_1).f7).length c800_7) ∧ w'.cell? (ad801.add ((x5_1).toNat * 8)) = some (.string ((rd_T130 l1 x5_1).f0)) ∧ w'.cell? ⟨(ad801.add ((x5_1).toNat * 8)).block, (ad801.add ((x5_1).toNat * 8)).off + 1, none⟩ = some (.int .i64 ((rd_T130 l1 x5_1).f1)) ∧ w'.cell? ⟨(ad801.add ((x5_1).toNat * 8)).block, (ad801.add ((x5_1).toNat * 8)).off + 2, none⟩ = some (.int .i64 ((rd_T130 l1 x5_1).f2)) ∧ w'.cell? ⟨(ad801.add ((x5_1).toNat * 8)).block, (ad801.add ((x5_1).toNat * 8)).off + 3, none⟩ = some (.int .i64 ((rd_T130 l1 x5_1).f3)) ∧ w'.cell? ⟨(ad801.add ((x5_1).toNat * 8)).block, (ad801.add ((x5_1).toNat * 8)).off + 4, none⟩ = some (.slice A801_4 ((rd_T130 l1 x5_1).f4).length c801_4) ∧ w'.cell? ⟨(ad801.add ((x5_1).toNat * 8)).block, (ad801.add ((x5_1).toNat * 8)).off + 5, none⟩ = some (.int .i64 ((rd_T130 l1 x5_1).f5)) ∧ w'.cell? ⟨(ad801.add ((x5_1).toNat * 8)).block, (ad801.add ((x5_1).toNat * 8)).off + 6, none⟩ = some (.slice A801_6 ((rd_T130 l1 x5_1).f6).length c801_6) ∧ w'.cell? ⟨(ad801.add ((x5_1).toNat * 8)).block, (ad801.add ((x5_1).toNat * 8)).off + 7, none⟩ = some (.slice A801_7 ((rd_T130 l1 x5_1).f7).length c801_7)) (ds := []) #[false, false, false, false, false, false, false, false, false, false] (by kernel_rfl) rfl rfl ⟨(ck HB hw800_0), (ck HB hw800_1), (ck HB hw800_2), (ck HB hw800_3), (ck HB hw800_4), (ck HB hw800_5), (ck HB hw800_6), (ck HB hw800_7), (ck HB hw801_0), (ck HB hw801_1), (ck HB hw801_2), (ck HB hw801_3), (ck HB hw801_4), (ck HB hw801_5), (ck HB hw801_6), (ck HB hw801_7)⟩ (fun hHeld => ?_); refine with_tabW laws_eqSectionS.tab6 laws_eqSectionS.bits6 (fun HT_ HW_ => ?_)
             generalize wr.drew = w9 at HB HR800_4 HR800_6 HR800_7 HR801_4 HR801_6 HR801_7 hx800_0 hx800_1 hx800_2 hx800_3 hx800_4 hx800_5 hx800_6 hx800_7 hx801_0 hx801_1 hx801_2 hx801_3 hx801_4 hx801_5 hx801_6 hx801_7 hHeld ⊢
             refine pure_ (i := 0) (N := some 17) (v := ?_) (a' := ?_) #[true, false, false, false, false, false, false, false, false, false] rfl rfl (any_of HT_.out (by kernel_rfl)) (fun _ _ _ h => h) (Or.inl ⟨by rfl, ?_⟩) ?_ ?_
             rotate_left
             · intro w'
               go_simp
               with_reducible rfl
             rotate_left
             · simp only [Act.put, sx1, sx2, sx3, i64_w, i32_w]
               rfl
             refine pure_ (i := 1) (N := some 18) (v := ?_) (a' := ?_) #[true, true, false, false, false, false, false, false, false, false] rfl rfl (any_of HT_.out (by kernel_rfl)) (fun _ _ _ h => h) (Or.inl ⟨by rfl, ?_⟩) ?_ ?_
             rotate_left
             · intro w'
               go_simp
               with_reducible rfl
             rotate_left
             · simp only [Act.put, sx1, sx2, sx3, i64_w, i32_w]
               rfl
             refine pure_ (i := 2) (N := some 19) (v := ?_) (a' := ?_) #[true, true, true, false, false, false, false, false, false, false] rfl rfl (any_of HT_.out (by kernel_rfl)) (fun _ _ _ h => h) (Or.inl ⟨by rfl, ?_⟩) ?_ ?_
             rotate_left
             · intro w'
               go_simp
               with_reducible rfl
             rotate_left
             · simp only [Act.put, sx1, sx2, sx3, i64_w, i32_w]
               rfl
             refine pure_ (i := 4) (N := some 21) (v := ?_) (a' := ?_) #[true, true, true, false, true, false, false, false, false, false] rfl rfl (any_of HT_.out (by kernel_rfl)) (fun _ _ _ h => h) (Or.inl ⟨by rfl, ?_⟩) ?_ ?_
             rotate_left
             · intro w'
               go_simp
               with_reducible rfl
             rotate_left
             · simp only [Act.put, sx1, sx2, sx3, i64_w, i32_w]
               rfl
             refine pure_ (i := 5) (N := some 22) (v := ?_) (a' := ?_) #[true, true, true, false, true, true, false, false, false, false] rfl rfl (any_of HT_.out (by kernel_rfl)) (fun _ _ _ h => h) (Or.inl ⟨by rfl, ?_⟩) ?_ ?_
             rotate_left
             · intro w'
               go_simp
               with_reducible rfl
             rotate_left
             · simp only [Act.put, sx1, sx2, sx3, i64_w, i32_w]
               rfl
             refine pure_ (i := 6) (N := some 23) (v := ?_) (a' := ?_) #[true, true, true, false, true, true, true, false, false, false] rfl rfl (any_of HT_.out (by kernel_rfl)) (fun _ _ _ h => h) (Or.inl ⟨by rfl, ?_⟩) ?_ ?_
             rotate_left
             · intro w'
               go_simp
               with_reducible rfl
             rotate_left
             · simp only [Act.put, sx1, sx2, sx3, i64_w, i32_w]
               rfl
             refine take_ (i := 3) (N := some 20) (v := ?_) (a' := ?_) #[true, true, true, true, true, true, true, false, false, false] rfl rfl (take_ofW HT_.out HW_.out (by kernel_rfl)) (fun _ _ _ h => h) (Or.inl ⟨by rfl, ?_⟩) hHeld ?_ ?_
             rotate_left
             · rintro w' ⟨s0, s1, s2, s3, s4, s5, s6, s7, s8, s9, s10, s11, s12, s13, s14, s15⟩
               go_simp
               with_reducible rfl
             rotate_left
             · simp only [Act.put, sx1, sx2, sx3, i64_w, i32_w]
               rfl
             refine take_ (i := 7) (N := some 24) (v := ?_) (a' := ?_) #[true, true, true, true, true, true, true, true, false, false] rfl rfl (take_ofW HT_.out HW_.out (by kernel_rfl)) (fun _ _ _ h => h) (Or.inl ⟨by rfl, ?_⟩) hHeld ?_ ?_
             rotate_left
             · rintro w' ⟨s0, s1, s2, s3, s4, s5, s6, s7, s8, s9, s10, s11, s12, s13, s14, s15⟩
               go_simp
               with_reducible rfl
             rotate_left
             · simp only [Act.put, sx1, sx2, sx3, i64_w, i32_w]
               rfl
             refine one_ (i := 8) (N := some 25) #[true, true, true, true, true, true, true, true, true, false] rfl rfl (one_of HT_.out (by kernel_rfl)) (by decide) (fun K hK => ?_)
             refine goes_ Try.func146 (by kernel_rfl) rfl #[.agg #[.string ((rd_T130 l0 x5_1).f0), .int .i64 ((rd_T130 l0 x5_1).f1), .int .i64 ((rd_T130 l0 x5_1).f2), .int .i64 ((rd_T130 l0 x5_1).f3), .slice A800_4 ((rd_T130 l0 x5_1).f4).length c800_4, .int .i64 ((rd_T130 l0 x5_1).f5), .slice A800_6 ((rd_T130 l0 x5_1).f6).length c800_6, .slice A800_7 ((rd_T130 l0 x5_1).f7).length c800_7], .agg #[.string ((rd_T130 l1 x5_1).f0), .int .i64 ((rd_T130 l1 x5_1).f1), .int .i64 ((rd_T130 l1 x5_1).f2), .int .i64 ((rd_T130 l1 x5_1).f3), .slice A801_4 ((rd_T130 l1 x5_1).f4).length c801_4, .int .i64 ((rd_T130 l1 x5_1).f5), .slice A801_6 ((rd_T130 l1 x5_1).f6).length c801_6, .slice A801_7 ((rd_T130 l1 x5_1).f7).length c801_7]] (by rfl) rfl rfl lz ?_
             with_reducible refine (laws_eqSection.calls k1 ((rd_T130 l0 x5_1).f0) ((rd_T130 l0 x5_1).f1) ((rd_T130 l0 x5_1).f2) ((rd_T130 l0 x5_1).f3) _ _ ((rd_T130 l0 x5_1).f4) ((rd_T130 l0 x5_1).f5) _ _ ((rd_T130 l0 x5_1).f6) _ _ ((rd_T130 l0 x5_1).f7) ((rd_T130 l1 x5_1).f0) ((rd_T130 l1 x5_1).f1) ((rd_T130 l1 x5_1).f2) ((rd_T130 l1 x5_1).f3) _ _ ((rd_T130 l1 x5_1).f4) ((rd_T130 l1 x5_1).f5) _ _ ((rd_T130 l1 x5_1).f6) _ _ ((rd_T130 l1 x5_1).f7) true _ ?side1 ?side2 ?side3 ?side4 ?side5 ?side6 ?side7 ?side8 ?side9 ?side10 ?side11 ?side12 A7.out).mono ?_
             (case side1 => exact cz HR800_4.out)
             (case side2 => exact HC800_4.out)
             (case side3 => exact cz HR800_6.out)
             (case side4 => exact HC800_6.out)
             (case side5 => exact cz HR800_7.out)
             (case side6 => exact HC800_7.out)
             (case side7 => exact cz HR801_4.out)
             (case side8 => exact HC801_4.out)
             (case side9 => exact cz HR801_6.out)
             (case side10 => exact HC801_6.out)
             (case side11 => exact cz HR801_7.out)
             (case side12 => exact HC801_7.out)
             rintro e w10 ⟨rfl, hb⟩
             refine ⟨_, rfl, ?_⟩
             have n0_ := Aside0.mk (below_step bz hb)
             clear HB
             have HB := n0_
             clear n0_
             (try clear hb)
             (try clear hb2)
             (try clear hk)
             (try clear hi)
             refine hK.out _ _ ⟨(ck HB hw800_0), (ck HB hw800_1), (ck HB hw800_2), (ck HB hw800_3), (ck HB hw800_4), (ck HB hw800_5), (ck HB hw800_6), (ck HB hw800_7), (ck HB hw801_0), (ck HB hw801_1), (ck HB hw801_2), (ck HB hw801_3), (ck HB hw801_4), (ck HB hw801_5), (ck HB hw801_6), (ck HB hw801_7)⟩ (fun hHeld => ?_)
             clear hK K
             refine norm_ (a' := ?_) ?_ ?_
             rotate_left
             · show Act.put _ (some 25) _ = _
               simp only [Act.put, sx1, sx2, sx3, i64_w, i32_w]
               rfl
             refine pure_ (i := 9) (N := some 26) (v := ?_) (a' := ?_) #[true, true, true, true, true, true, true, true, true, true] rfl rfl (any_of HT_.out (by kernel_rfl)) (fun _ _ _ h => h) (Or.inl ⟨by rfl, ?_⟩) ?_ ?_
             rotate_left
             · intro w'
               go_simp
               with_reducible rfl
             rotate_left
             · simp only [Act.put, sx1, sx2, sx3, i64_w, i32_w]
               rfl
             refine done_ (done_of HT_.out (by kernel_rfl)) ?_
             try go_wp2
             go_roundg k1
             case measure => have := HK1.out; omega
             case rel => exact ⟨(wrap64 (x5_1 + 1)), sz_, H', ⟨by have := HK1.out; omega⟩, ⟨ bz⟩⟩
           · replace c8 := Bool.eq_false_iff.mpr c8
             subst c8
             have H1 : (some false) = some r := by rw [if_neg (show ¬ (false = true) by decide)] at H; exact H
             clear H
             have H := H1
             clear H1
             obtain rfl := Option.some.inj H
             try go_wp2
             have n0_ := Aside0.mk (below_drew1 HB.out)
             clear HB
             have HB := n0_
             clear n0_
             have p800 : 0 ≤ (x5_1 : Int) := of_decide_eq_true az
             have q800 : x5_1 < (l0.length : Int) := of_decide_eq_true az
             obtain ⟨ad800, A800_4, c800_4, A800_6, c800_6, A800_7, c800_7, e800, hx800_0, hx800_1, hx800_2, hx800_3, hx800_4, hx800_5, hx800_6, hx800_7, hl800_4, hi800_4, hl800_6, hi800_6, hl800_7, hi800_7⟩ := at_T130 HR0.out x5_1 p800 q800
             have hw800_7 := hx800_7
             have hw800_6 := hx800_6
             have hw800_5 := hx800_5
             have hw800_4 := hx800_4
             have hw800_3 := hx800_3
             have hw800_2 := hx800_2
             have hw800_1 := hx800_1
             have hw800_0 := hx800_0
             cases e800
             replace hx800_0 := ck HB hx800_0
             replace hx800_1 := ck HB hx800_1
             replace hx800_2 := ck HB hx800_2
             replace hx800_3 := ck HB hx800_3
             replace hx800_4 := ck HB hx800_4
             replace hx800_5 := ck HB hx800_5
             replace hx800_6 := ck HB hx800_6
             replace hx800_7 := ck HB hx800_7
             have HR800_4 := Aside0.mk hi800_4
             have HC800_4 := Aside0.mk hl800_4
             clear hi800_4 hl800_4
             have HR800_6 := Aside0.mk hi800_6
             have HC800_6 := Aside0.mk hl800_6
             clear hi800_6 hl800_6
             have HR800_7 := Aside0.mk hi800_7
             have HC800_7 := Aside0.mk hl800_7
             clear hi800_7 hl800_7
             replace p800 := eq_true p800
             replace q800 := eq_true q800
             have p801 : 0 ≤ (x5_1 : Int) := of_decide_eq_true az
             have q801 : x5_1 < (l1.length : Int) := of_decide_eq_true az
             obtain ⟨ad801, A801_4, c801_4, A801_6, c801_6, A801_7, c801_7, e801, hx801_0, hx801_1, hx801_2, hx801_3, hx801_4, hx801_5, hx801_6, hx801_7, hl801_4, hi801_4, hl801_6, hi801_6, hl801_7, hi801_7⟩ := at_T130 HR1.out x5_1 p801 q801
             have hw801_7 := hx801_7
             have hw801_6 := hx801_6
             have hw801_5 := hx801_5
             have hw801_4 := hx801_4
             have hw801_3 := hx801_3
             have hw801_2 := hx801_2
             have hw801_1 := hx801_1
             have hw801_0 := hx801_0
             cases e801
             replace hx801_0 := ck HB hx801_0
             replace hx801_1 := ck HB hx801_1
             replace hx801_2 := ck HB hx801_2
             replace hx801_3 := ck HB hx801_3
             replace hx801_4 := ck HB hx801_4
             replace hx801_5 := ck HB hx801_5
             replace hx801_6 := ck HB hx801_6
             replace hx801_7 := ck HB hx801_7
             have HR801_4 := Aside0.mk hi801_4
             have HC801_4 := Aside0.mk hl801_4
             clear hi801_4 hl801_4
             have HR801_6 := Aside0.mk hi801_6
             have HC801_6 := Aside0.mk hl801_6
             clear hi801_6 hl801_6
             have HR801_7 := Aside0.mk hi801_7
             have HC801_7 := Aside0.mk hl801_7
             clear hi801_7 hl801_7
             replace p801 := eq_true p801
             replace q801 := eq_true q801
             refine start_ (n := 10) (S := fun w' => w'.cell? (ad800.add ((x5_1).toNat * 8)) = some (.string ((rd_T130 l0 x5_1).f0)) ∧ w'.cell? ⟨(ad800.add ((x5_1).toNat * 8)).block, (ad800.add ((x5_1).toNat * 8)).off + 1, none⟩ = some (.int .i64 ((rd_T130 l0 x5_1).f1)) ∧ w'.cell? ⟨(ad800.add ((x5_1).toNat * 8)).block, (ad800.add ((x5_1).toNat * 8)).off + 2, none⟩ = some (.int .i64 ((rd_T130 l0 x5_1).f2)) ∧ w'.cell? ⟨(ad800.add ((x5_1).toNat * 8)).block, (ad800.add ((x5_1).toNat * 8)).off + 3, none⟩ = some (.int .i64 ((rd_T130 l0 x5_1).f3)) ∧ w'.cell? ⟨(ad800.add ((x5_1).toNat * 8)).block, (ad800.add ((x5_1).toNat * 8)).off + 4, none⟩ = some (.slice A800_4 ((rd_T130 l0 x5_1).f4).length c800_4) ∧ w'.cell? ⟨(ad800.add ((x5_1).toNat * 8)).block, (ad800.add ((x5_1).toNat * 8)).off + 5, none⟩ = some (.int .i64 ((rd_T130 l0 x5_1).f5)) ∧ w'.cell? ⟨(ad800.add ((x5_1).toNat * 8)).block, (ad800.add ((x5_1).toNat * 8)).off + 6, none⟩ = some (.slice A800_6 ((rd_T130 l0 x5_1).f6).length c800_6) ∧ w'.cell? ⟨(ad800.add ((x5_1).toNat * 8)).block, (ad800.add ((x5_1).toNat * 8)).off + 7, none⟩ = some (.slice A800_7 ((rd_T130 l0 x5_1).f7).length c800_7) ∧ w'.cell? (ad801.add ((x5_1).toNat * 8)) = some (.string ((rd_T130 l1 x5_1).f0)) ∧ w'.cell? ⟨(ad801.add ((x5_1).toNat * 8)).block, (ad801.add ((x5_1).toNat * 8)).off + 1, none⟩ = some (.int .i64 ((rd_T130 l1 x5_1).f1)) ∧ w'.cell? ⟨(ad801.add ((x5_1).toNat * 8)).block, (ad801.add ((x5_1).toNat * 8)).off + 2, none⟩ = some (.int .i64 ((rd_T130 l1 x5_1).f2)) ∧ w'.cell? ⟨(ad801.add ((x5_1).toNat * 8)).block, (ad801.add ((x5_1).toNat * 8)).off + 3, none⟩ = some (.int .i64 ((rd_T130 l1 x5_1).f3)) ∧ w'.cell? ⟨(ad801.add ((x5_1).toNat * 8)).block, (ad801.add ((x5_1).toNat * 8)).off + 4, none⟩ = some (.slice A801_4 ((rd_T130 l1 x5_1).f4).length c801_4) ∧ w'.cell? ⟨(ad801.add ((x5_1).toNat * 8)).block, (ad801.add ((x5_1).toNat * 8)).off + 5, none⟩ = some (.int .i64 ((rd_T130 l1 x5_1).f5)) ∧ w'.cell? ⟨(ad801.add ((x5_1).toNat * 8)).block, (ad801.add ((x5_1).toNat * 8)).off + 6, none⟩ = some (.slice A801_6 ((rd_T130 l1 x5_1).f6).length c801_6) ∧ w'.cell? ⟨(ad801.add ((x5_1).toNat * 8)).block, (ad801.add ((x5_1).toNat * 8)).off + 7, none⟩ = some (.slice A801_7 ((rd_T130 l1 x5_1).f7).length c801_7)) (ds := []) #[false, false, false, false, false, false, false, false, false, false] (by kernel_rfl) rfl rfl ⟨(ck HB hw800_0), (ck HB hw800_1), (ck HB hw800_2), (ck HB hw800_3), (ck HB hw800_4), (ck HB hw800_5), (ck HB hw800_6), (ck HB hw800_7), (ck HB hw801_0), (ck HB hw801_1), (ck HB hw801_2), (ck HB hw801_3), (ck HB hw801_4), (ck HB hw801_5), (ck HB hw801_6), (ck HB hw801_7)⟩ (fun hHeld => ?_); refine with_tabW laws_eqSectionS.tab6 laws_eqSectionS.bits6 (fun HT_ HW_ => ?_)
             generalize wr.drew = w11 at HB HR800_4 HR800_6 HR800_7 HR801_4 HR801_6 HR801_7 hx800_0 hx800_1 hx800_2 hx800_3 hx800_4 hx800_5 hx800_6 hx800_7 hx801_0 hx801_1 hx801_2 hx801_3 hx801_4 hx801_5 hx801_6 hx801_7 hHeld ⊢
             refine pure_ (i := 0) (N := some 17) (v := ?_) (a' := ?_) #[true, false, false, false, false, false, false, false, false, false] rfl rfl (any_of HT_.out (by kernel_rfl)) (fun _ _ _ h => h) (Or.inl ⟨by rfl, ?_⟩) ?_ ?_
             rotate_left
             · intro w'
               go_simp
               with_reducible rfl
             rotate_left
             · simp only [Act.put, sx1, sx2, sx3, i64_w, i32_w]
               rfl
             refine pure_ (i := 1) (N := some 18) (v := ?_) (a' := ?_) #[true, true, false, false, false, false, false, false, false, false] rfl rfl (any_of HT_.out (by kernel_rfl)) (fun _ _ _ h => h) (Or.inl ⟨by rfl, ?_⟩) ?_ ?_
             rotate_left
             · intro w'
               go_simp
               with_reducible rfl
             rotate_left
             · simp only [Act.put, sx1, sx2, sx3, i64_w, i32_w]
               rfl
             refine pure_ (i := 2) (N := some 19) (v := ?_) (a' := ?_) #[true, true, true, false, false, false, false, false, false, false] rfl rfl (any_of HT_.out (by kernel_rfl)) (fun _ _ _ h => h) (Or.inl ⟨by rfl, ?_⟩) ?_ ?_
             rotate_left
             · intro w'
               go_simp
               with_reducible rfl
             rotate_left
             · simp only [Act.put, sx1, sx2, sx3, i64_w, i32_w]
               rfl
             refine pure_ (i := 4) (N := some 21) (v := ?_) (a' := ?_) #[true, true, true, false, true, false, false, false, false, false] rfl rfl (any_of HT_.out (by kernel_rfl)) (fun _ _ _ h => h) (Or.inl ⟨by rfl, ?_⟩) ?_ ?_
             rotate_left
             · intro w'
               go_simp
               with_reducible rfl
             rotate_left
             · simp only [Act.put, sx1, sx2, sx3, i64_w, i32_w]
               rfl
             refine pure_ (i := 5) (N := some 22) (v := ?_) (a' := ?_) #[true, true, true, false, true, true, false, false, false, false] rfl rfl (any_of HT_.out (by kernel_rfl)) (fun _ _ _ h => h) (Or.inl ⟨by rfl, ?_⟩) ?_ ?_
             rotate_left
             · intro w'
               go_simp
               with_reducible rfl
             rotate_left
             · simp only [Act.put, sx1, sx2, sx3, i64_w, i32_w]
               rfl
             refine pure_ (i := 6) (N := some 23) (v := ?_) (a' := ?_) #[true, true, true, false, true, true, true, false, false, false] rfl rfl (any_of HT_.out (by kernel_rfl)) (fun _ _ _ h => h) (Or.inl ⟨by rfl, ?_⟩) ?_ ?_
             rotate_left
             · intro w'
               go_simp
               with_reducible rfl
             rotate_left
             · simp only [Act.put, sx1, sx2, sx3, i64_w, i32_w]
               rfl
             refine take_ (i := 3) (N := some 20) (v := ?_) (a' := ?_) #[true, true, true, true, true, true, true, false, false, false] rfl rfl (take_ofW HT_.out HW_.out (by kernel_rfl)) (fun _ _ _ h => h) (Or.inl ⟨by rfl, ?_⟩) hHeld ?_ ?_
             rotate_left
             · rintro w' ⟨s0, s1, s2, s3, s4, s5, s6, s7, s8, s9, s10, s11, s12, s13, s14, s15⟩
               go_simp
               with_reducible rfl
             rotate_left
             · simp only [Act.put, sx1, sx2, sx3, i64_w, i32_w]
               rfl
             refine take_ (i := 7) (N := some 24) (v := ?_) (a' := ?_) #[true, true, true, true, true, true, true, true, false, false] rfl rfl (take_ofW HT_.out HW_.out (by kernel_rfl)) (fun _ _ _ h => h) (Or.inl ⟨by rfl, ?_⟩) hHeld ?_ ?_
             rotate_left
             · rintro w' ⟨s0, s1, s2, s3, s4, s5, s6, s7, s8, s9, s10, s11, s12, s13, s14, s15⟩
               go_simp
               with_reducible rfl
             rotate_left
             · simp only [Act.put, sx1, sx2, sx3, i64_w, i32_w]
               rfl
             refine one_ (i := 8) (N := some 25) #[true, true, true, true, true, true, true, true, true, false] rfl rfl (one_of HT_.out (by kernel_rfl)) (by decide) (fun K hK => ?_)
             refine goes_ Try.func146 (by kernel_rfl) rfl #[.agg #[.string ((rd_T130 l0 x5_1).f0), .int .i64 ((rd_T130 l0 x5_1).f1), .int .i64 ((rd_T130 l0 x5_1).f2), .int .i64 ((rd_T130 l0 x5_1).f3), .slice A800_4 ((rd_T130 l0 x5_1).f4).length c800_4, .int .i64 ((rd_T130 l0 x5_1).f5), .slice A800_6 ((rd_T130 l0 x5_1).f6).length c800_6, .slice A800_7 ((rd_T130 l0 x5_1).f7).length c800_7], .agg #[.string ((rd_T130 l1 x5_1).f0), .int .i64 ((rd_T130 l1 x5_1).f1), .int .i64 ((rd_T130 l1 x5_1).f2), .int .i64 ((rd_T130 l1 x5_1).f3), .slice A801_4 ((rd_T130 l1 x5_1).f4).length c801_4, .int .i64 ((rd_T130 l1 x5_1).f5), .slice A801_6 ((rd_T130 l1 x5_1).f6).length c801_6, .slice A801_7 ((rd_T130 l1 x5_1).f7).length c801_7]] (by rfl) rfl rfl lz ?_
             with_reducible refine (laws_eqSection.calls k1 ((rd_T130 l0 x5_1).f0) ((rd_T130 l0 x5_1).f1) ((rd_T130 l0 x5_1).f2) ((rd_T130 l0 x5_1).f3) _ _ ((rd_T130 l0 x5_1).f4) ((rd_T130 l0 x5_1).f5) _ _ ((rd_T130 l0 x5_1).f6) _ _ ((rd_T130 l0 x5_1).f7) ((rd_T130 l1 x5_1).f0) ((rd_T130 l1 x5_1).f1) ((rd_T130 l1 x5_1).f2) ((rd_T130 l1 x5_1).f3) _ _ ((rd_T130 l1 x5_1).f4) ((rd_T130 l1 x5_1).f5) _ _ ((rd_T130 l1 x5_1).f6) _ _ ((rd_T130 l1 x5_1).f7) false _ ?side1 ?side2 ?side3 ?side4 ?side5 ?side6 ?side7 ?side8 ?side9 ?side10 ?side11 ?side12 A7.out).mono ?_
             (case side1 => exact cz HR800_4.out)
             (case side2 => exact HC800_4.out)
             (case side3 => exact cz HR800_6.out)
             (case side4 => exact HC800_6.out)
             (case side5 => exact cz HR800_7.out)
             (case side6 => exact HC800_7.out)
             (case side7 => exact cz HR801_4.out)
             (case side8 => exact HC801_4.out)
             (case side9 => exact cz HR801_6.out)
             (case side10 => exact HC801_6.out)
             (case side11 => exact cz HR801_7.out)
             (case side12 => exact HC801_7.out)
             rintro e w12 ⟨rfl, hb⟩
             refine ⟨_, rfl, ?_⟩
             have n0_ := Aside0.mk (below_step bz hb)
             clear HB
             have HB := n0_
             clear n0_
             (try clear hb)
             (try clear hb2)
             (try clear hk)
             (try clear hi)
             refine hK.out _ _ ⟨(ck HB hw800_0), (ck HB hw800_1), (ck HB hw800_2), (ck HB hw800_3), (ck HB hw800_4), (ck HB hw800_5), (ck HB hw800_6), (ck HB hw800_7), (ck HB hw801_0), (ck HB hw801_1), (ck HB hw801_2), (ck HB hw801_3), (ck HB hw801_4), (ck HB hw801_5), (ck HB hw801_6), (ck HB hw801_7)⟩ (fun hHeld => ?_)
             clear hK K
             refine norm_ (a' := ?_) ?_ ?_
             rotate_left
             · show Act.put _ (some 25) _ = _
               simp only [Act.put, sx1, sx2, sx3, i64_w, i32_w]
               rfl
             refine pure_ (i := 9) (N := some 26) (v := ?_) (a' := ?_) #[true, true, true, true, true, true, true, true, true, true] rfl rfl (any_of HT_.out (by kernel_rfl)) (fun _ _ _ h => h) (Or.inl ⟨by rfl, ?_⟩) ?_ ?_
             rotate_left
             · intro w'
               go_simp
               with_reducible rfl
             rotate_left
             · simp only [Act.put, sx1, sx2, sx3, i64_w, i32_w]
               rfl
             refine done_ (done_of HT_.out (by kernel_rfl)) ?_
             try go_wp2
             go_ret
             exact ⟨by first | rfl | (simp [errW_none, errW_some] <;> rfl) | (simp [*, errW_none, errW_some] <;> rfl), bz⟩
         · rw [if_neg c6] at H
           exact absurd H (by simp)
       · rw [if_neg c5] at H
         exact absurd H (by simp)
     · rw [if_neg c4] at H
       have c4b0 : decide (x5_1 < (l0.length : Int)) = false := decide_eq_false c4
       clear c4
       obtain rfl := Option.some.inj H
       go_wp2
       go_ret
       exact ⟨by first | rfl | (simp [errW_none, errW_some] <;> rfl) | (simp [*, errW_none, errW_some] <;> rfl), bz⟩
 · rw [if_neg c3] at H
   have c3b0 : ((l0.length : Int) == (l1.length : Int)) = false := beq_eq_false_iff_ne.mpr c3
   have c3b1 : ((l0.length : Int) != (l1.length : Int)) = true := bne_iff_ne.mpr c3
   have c3b2 : (l0.length == l1.length) = false := by first | simpa using c3 | (simp at c3 ⊢; omega)
   obtain rfl := Option.some.inj H
   go_enter Try.func104, Try.ntmps104
   go_wp2
   go_ret
   exact ⟨by first | rfl | (simp [errW_none, errW_some] <;> rfl) | (simp [*, errW_none, errW_some] <;> rfl), bz⟩

set_option linter.unusedVariables false
set_option linter.unusedSimpArgs false

def laws_eqObject.f (k : Nat) (l0_0 : List (S130)) (l1_0 : List (S130)) : Option (Bool) := (laws_eqSectionS.f k l0_0 l1_0).bind fun t805 => (if t805 = true then (some true) else (some false))
set_option maxHeartbeats 8000000 in
set_option maxRecDepth 100000 in
theorem laws_eqObject.calls (k : Nat) (A0_0 : Option Addr) (c0_0 : Nat) (l0_0 : List (S130)) (A1_0 : Option Addr) (c1_0 : Nat) (l1_0 : List (S130)) (r : Bool) (w : World) (hr0_0 : Kd.C k130 w A0_0 l0_0.length l0_0) (hc0_0 : l0_0.length ≤ c0_0) (hr1_0 : Kd.C k130 w A1_0 l1_0.length l1_0) (hc1_0 : l1_0.length ≤ c1_0) (h : laws_eqObject.f k l0_0 l1_0 = some r) :
 Calls Try.prog 48 #[.agg #[.slice A0_0 l0_0.length c0_0], .agg #[.slice A1_0 l1_0.length c1_0]] w fun e w' => e = .returned (.bool r) ∧ Below w.heap.size w w' := by
 have hu68 := Try.underlying68
 have HR0_0 := Aside0.mk hr0_0
 have HC0_0 := Aside0.mk hc0_0
 clear hr0_0 hc0_0
 have HR1_0 := Aside0.mk hr1_0
 have HC1_0 := Aside0.mk hc1_0
 clear hr1_0 hc1_0
 have HB := Aside0.mk (Below.refl w.heap.size w)
 have H : ((laws_eqSectionS.f k l0_0 l1_0).bind fun t805 => (if t805 = true then (some true) else (some false))) = some r := h
 clear h
 replace H := Option.bind_eq_some_iff.mp H
 obtain ⟨t805, A30, H⟩ := H
 replace H : (if t805 = true then (some true) else (some false)) = some r := H
 have A3 := Aside0.mk A30
 clear A30
 by_cases c4 : t805 = true
 · subst c4
   have H1 : (some true) = some r := by rw [if_pos rfl] at H; exact H
   clear H
   have H := H1
   clear H1
   obtain rfl := Option.some.inj H
   go_enter Try.func48, Try.ntmps48
   go_wp2_with (first | ((with_reducible refine gate_dst (N := 2) rfl ?_); refine box_event ?hg (N := 2) ?hd (cs := #[.slice A0_0 l0_0.length c0_0]) (t := 68) ?hr ?_; (case hd => rfl); (case hg => rfl); (case hr => first | (go_simp; done) | (go_simp; rfl)); intro gb803 hg w5 hbox hb; have n0_ := Aside0.mk (below_step bz hb); have n1_ := Aside0.mk (hbox); have n2_ := Aside0.mk ((by rw [hg]; exact (below_size bz) : w.heap.size ≤ gb803)); have n3_ := Aside0.mk ((by rw [hg]; exact (below_size bz) : w.heap.size ≤ gb803)); clear HB; have HB := n0_; have BK803 := n1_; have GW803 := n2_; have GE803 := n3_; clear n0_ n1_ n2_ n3_; clear hb hbox hg) | ((with_reducible refine gate_dst (N := 3) rfl ?_); refine box_event ?hg (N := 3) ?hd (cs := #[.slice A1_0 l1_0.length c1_0]) (t := 68) ?hr ?_; (case hd => rfl); (case hg => rfl); (case hr => first | (go_simp; done) | (go_simp; rfl)); intro gb804 hg w6 hbox hb; have n0_ := Aside0.mk (blk_below (g := gb803) (o := .cells #[.slice A0_0 l0_0.length c0_0] 68 (0, 0)) kz hb); have n1_ := Aside0.mk (below_step bz hb); have n2_ := Aside0.mk (hbox); have n3_ := Aside0.mk ((by rw [hg]; exact (below_size bz) : w.heap.size ≤ gb804)); have n4_ := Aside0.mk ((by rw [hg]; exact (below_size bz) : w.heap.size ≤ gb804)); have n5_ := Aside0.mk ((by rw [hg]; exact Nat.ne_of_lt (blk_lt (g := gb803) (o := .cells #[.slice A0_0 l0_0.length c0_0] 68 (0, 0)) kz) : gb803 ≠ gb804)); have n6_ := Aside0.mk ((by rw [hg]; exact Nat.ne_of_gt (blk_lt (g := gb803) (o := .cells #[.slice A0_0 l0_0.length c0_0] 68 (0, 0)) kz) : gb804 ≠ gb803)); clear BK803; clear HB; have BK803 := n0_; have HB := n1_; have BK804 := n2_; have GW804 := n3_; have GE804 := n4_; have NB803_804 := n5_; have NB804_803 := n6_; clear n0_ n1_ n2_ n3_ n4_ n5_ n6_; clear hb hbox hg; have hnb7 := NB803_804.out; have hnc7 := NB804_803.out; have hcz8_0 : w6.cell? ⟨gb803, 0, none⟩ = some (.slice A0_0 l0_0.length c0_0) := (blk_cell BK803.out 0).trans rfl; have hfz8_0 := blk_frozen BK803.out 0; have hcz9_0 : w6.cell? ⟨gb804, 0, none⟩ = some (.slice A1_0 l1_0.length c1_0) := (blk_cell BK804.out 0).trans rfl; have hfz9_0 := blk_frozen BK804.out 0) | ((with_reducible refine gate_callee (f := 104) rfl ?_); refine goesL_ (some 9) rfl rfl Try.func104 (by kernel_rfl) rfl #[.slice A0_0 l0_0.length c0_0, .slice A1_0 l1_0.length c1_0] rfl lz ?_; (with_reducible refine (laws_eqSectionS.calls k _ _ l0_0 _ _ l1_0 true _ ?side1 ?side2 ?side3 ?side4 A3.out).mono ?_); (case side1 => exact cz HR0_0.out); (case side2 => exact HC0_0.out); (case side3 => exact cz HR1_0.out); (case side4 => exact HC1_0.out); rintro e w10 ⟨rfl, hb⟩; refine ⟨_, rfl, ?_⟩; have n0_ := Aside0.mk (blk_below (g := gb803) (o := .cells #[.slice A0_0 l0_0.length c0_0] 68 (0, 0)) kz hb); have n1_ := Aside0.mk (blk_below (g := gb804) (o := .cells #[.slice A1_0 l1_0.length c1_0] 68 (0, 0)) kz hb); have n2_ := Aside0.mk (below_step bz hb); clear BK803; clear BK804; clear HB; have BK803 := n0_; have BK804 := n1_; have HB := n2_; clear n0_ n1_ n2_; (try clear hb); (try clear hb2); (try clear hk); (try clear hi)))
   go_ret
   exact ⟨by first | rfl | (simp [errW_none, errW_some] <;> rfl) | (simp [*, errW_none, errW_some] <;> rfl), bz⟩
 · replace c4 := Bool.eq_false_iff.mpr c4
   subst c4
   have H1 : (some false) = some r := by rw [if_neg (show ¬ (false = true) by decide)] at H; exact H
   clear H
   have H := H1
   clear H1
   obtain rfl := Option.some.inj H
   go_enter Try.func48, Try.ntmps48
   go_wp2_with (first | ((with_reducible refine gate_dst (N := 2) rfl ?_); refine box_event ?hg (N := 2) ?hd (cs := #[.slice A0_0 l0_0.length c0_0]) (t := 68) ?hr ?_; (case hd => rfl); (case hg => rfl); (case hr => first | (go_simp; done) | (go_simp; rfl)); intro gb803 hg w11 hbox hb; have n0_ := Aside0.mk (below_step bz hb); have n1_ := Aside0.mk (hbox); have n2_ := Aside0.mk ((by rw [hg]; exact (below_size bz) : w.heap.size ≤ gb803)); have n3_ := Aside0.mk ((by rw [hg]; exact (below_size bz) : w.heap.size ≤ gb803)); clear HB; have HB := n0_; have BK803 := n1_; have GW803 := n2_; have GE803 := n3_; clear n0_ n1_ n2_ n3_; clear hb hbox hg) | ((with_reducible refine gate_dst (N := 3) rfl ?_); refine box_event ?hg (N := 3) ?hd (cs := #[.slice A1_0 l1_0.length c1_0]) (t := 68) ?hr ?_; (case hd => rfl); (case hg => rfl); (case hr => first | (go_simp; done) | (go_simp; rfl)); intro gb804 hg w12 hbox hb; have n0_ := Aside0.mk (blk_below (g := gb803) (o := .cells #[.slice A0_0 l0_0.length c0_0] 68 (0, 0)) kz hb); have n1_ := Aside0.mk (below_step bz hb); have n2_ := Aside0.mk (hbox); have n3_ := Aside0.mk ((by rw [hg]; exact (below_size bz) : w.heap.size ≤ gb804)); have n4_ := Aside0.mk ((by rw [hg]; exact (below_size bz) : w.heap.size ≤ gb804)); have n5_ := Aside0.mk ((by rw [hg]; exact Nat.ne_of_lt (blk_lt (g := gb803) (o := .cells #[.slice A0_0 l0_0.length c0_0] 68 (0, 0)) kz) : gb803 ≠ gb804)); have n6_ := Aside0.mk ((by rw [hg]; exact Nat.ne_of_gt (blk_lt (g := gb803) (o := .cells #[.slice A0_0 l0_0.length c0_0] 68 (0, 0)) kz) : gb804 ≠ gb803)); clear BK803; clear HB; have BK803 := n0_; have HB := n1_; have BK804 := n2_; have GW804 := n3_; have GE804 := n4_; have NB803_804 := n5_; have NB804_803 := n6_; clear n0_ n1_ n2_ n3_ n4_ n5_ n6_; clear hb hbox hg; have hnb13 := NB803_804.out; have hnc13 := NB804_803.out; have hcz14_0 : w12.cell? ⟨gb803, 0, none⟩ = some (.slice A0_0 l0_0.length c0_0) := (blk_cell BK803.out 0).trans rfl; have hfz14_0 := blk_frozen BK803.out 0; have hcz15_0 : w12.cell? ⟨gb804, 0, none⟩ = some (.slice A1_0 l1_0.length c1_0) := (blk_cell BK804.out 0).trans rfl; have hfz15_0 := blk_frozen BK804.out 0) | ((with_reducible refine gate_callee (f := 104) rfl ?_); refine goesL_ (some 9) rfl rfl Try.func104 (by kernel_rfl) rfl #[.slice A0_0 l0_0.length c0_0, .slice A1_0 l1_0.length c1_0] rfl lz ?_; (with_reducible refine (laws_eqSectionS.calls k _ _ l0_0 _ _ l1_0 false _ ?side1 ?side2 ?side3 ?side4 A3.out).mono ?_); (case side1 => exact cz HR0_0.out); (case side2 => exact HC0_0.out); (case side3 => exact cz HR1_0.out); (case side4 => exact HC1_0.out); rintro e w16 ⟨rfl, hb⟩; refine ⟨_, rfl, ?_⟩; have n0_ := Aside0.mk (blk_below (g := gb803) (o := .cells #[.slice A0_0 l0_0.length c0_0] 68 (0, 0)) kz hb); have n1_ := Aside0.mk (blk_below (g := gb804) (o := .cells #[.slice A1_0 l1_0.length c1_0] 68 (0, 0)) kz hb); have n2_ := Aside0.mk (below_step bz hb); clear BK803; clear BK804; clear HB; have BK803 := n0_; have BK804 := n1_; have HB := n2_; clear n0_ n1_ n2_; (try clear hb); (try clear hb2); (try clear hk); (try clear hi)))
   go_ret
   exact ⟨by first | rfl | (simp [errW_none, errW_some] <;> rfl) | (simp [*, errW_none, errW_some] <;> rfl), bz⟩

set_option linter.unusedVariables false
set_option linter.unusedSimpArgs false

def laws_eqObjectS.l0 : Nat → List (S68) → List (S68) → Int → Option (Bool)
 | 0, _, _, _ => none
 | k + 1, x0, x1, x5 => if x5 < (x0.length : Int) then (if 0 ≤ x5 then (if x5 < (x1.length : Int) then ((laws_eqObject.f k ((rd_T68 x0 x5).f0) ((rd_T68 x1 x5).f0)).bind fun t808 => (if t808 = true then (laws_eqObjectS.l0 k x0 x1 (wrap64 (x5 + 1))) else (some false))) else (none)) else (none)) else (some true)
def laws_eqObjectS.f (k : Nat) (l0 : List (S68)) (l1 : List (S68)) : Option (Bool) := if (l0.length : Int) = (l1.length : Int) then (laws_eqObjectS.l0 k l0 l1 0) else (some false)
def laws_eqObjectS.T6 : Bool × List (List Nat × List Nat) := (true, [([], []), ([], []), ([0, 1], [0, 1]), ([2], [2]), ([], []), ([], []), ([4, 5], [4, 5]), ([6], [6]), ([3, 7], [3, 7]), ([8], [8])])
def laws_eqObjectS.B6 : List Nat := [0, 0, 3, 7, 0, 0, 48, 112, 255, 511]
theorem laws_eqObjectS.tab6 : rtab .any (opsOf Try.f38 6) = laws_eqObjectS.T6 := by kernel_rfl
theorem laws_eqObjectS.bits6 : waitsOk laws_eqObjectS.T6.2 laws_eqObjectS.B6 = true := by kernel_rfl
set_option maxHeartbeats 8000000 in
set_option maxRecDepth 100000 in
theorem laws_eqObjectS.calls (k : Nat) (A0 : Option Addr) (c0 : Nat) (l0 : List (S68)) (A1 : Option Addr) (c1 : Nat) (l1 : List (S68)) (r : Bool) (w : World) (hr0 : Kd.C k68 w A0 l0.length l0) (hc0 : l0.length ≤ c0) (hr1 : Kd.C k68 w A1 l1.length l1) (hc1 : l1.length ≤ c1) (h : laws_eqObjectS.f k l0 l1 = some r) :
 Calls Try.prog 38 #[.slice A0 l0.length c0, .slice A1 l1.length c1] w fun e w' => e = .returned (.bool r) ∧ Below w.heap.size w w' := by
 have hu68 := Try.underlying68
 have HR0 := Aside0.mk hr0
 have HC0 := Aside0.mk hc0
 clear hr0 hc0
 have HR1 := Aside0.mk hr1
 have HC1 := Aside0.mk hc1
 clear hr1 hc1
 have HB := Aside0.mk (Below.refl w.heap.size w)
 have H : (if (l0.length : Int) = (l1.length : Int) then (laws_eqObjectS.l0 k l0 l1 0) else (some false)) = some r := h
 clear h
 by_cases c3 : (l0.length : Int) = (l1.length : Int)
 · rw [if_pos c3] at H
   have c3b0 : ((l0.length : Int) == (l1.length : Int)) = true := beq_iff_eq.mpr c3
   have c3b1 : ((l0.length : Int) != (l1.length : Int)) = false := bne_eq_false_iff_eq.mpr c3
   have c3b2 : (l0.length == l1.length) = true := by first | simpa using c3 | (simp at c3 ⊢; omega)
   clear c3
   have H' := Aside0.mk H
   clear H
   go_enter Try.func38, Try.ntmps38
   go_wp2
   go_loopg [5] k (fun kq v5 w' => ∃ (x5_1 : Int), v5 = .int .i64 x5_1 ∧ Aside0 (laws_eqObjectS.l0 kq l0 l1 x5_1 = some r) ∧ Aside0 (kq ≤ k) ∧ Aside0 (Below w.heap.size w w'))
   case atStart => exact ⟨(0), sz_, H', ⟨Nat.le_refl _⟩, ⟨ bz⟩⟩
   case round =>
    clear H'
    try clear c1
    try clear p2
    try clear c3
    try clear c3b0
    try clear c3b1
    try clear c3b2
    obtain ⟨x5_1, rfl, HA, HK1, HB⟩ := hrel
    cases gk with
    | zero => exact absurd HA.out (by simp [laws_eqObjectS.l0])
    | succ k1 =>
     have H := HA.out
     clear HA
     simp only [laws_eqObjectS.l0] at H
     by_cases c4 : x5_1 < (l0.length : Int)
     · rw [if_pos c4] at H
       have c4b0 : decide (x5_1 < (l0.length : Int)) = true := decide_eq_true c4
       clear c4
       by_cases c5 : 0 ≤ x5_1
       · rw [if_pos c5] at H
         have c5b0 : decide (0 ≤ x5_1) = true := decide_eq_true c5
         clear c5
         by_cases c6 : x5_1 < (l1.length : Int)
         · rw [if_pos c6] at H
           have c6b0 : decide (x5_1 < (l1.length : Int)) = true := decide_eq_true c6
           clear c6
           replace H := Option.bind_eq_some_iff.mp H
           obtain ⟨t808, A70, H⟩ := H
           replace H : (if t808 = true then (laws_eqObjectS.l0 k1 l0 l1 (wrap64 (x5_1 + 1))) else (some false)) = some r := H
           have A7 := Aside0.mk A70
           clear A70
           by_cases c8 : t808 = true
           · subst c8
             have H1 : (laws_eqObjectS.l0 k1 l0 l1 (wrap64 (x5_1 + 1))) = some r := by rw [if_pos rfl] at H; exact H
             clear H
             have H := H1
             clear H1
             have H' := Aside0.mk H
             clear H
             try go_wp2
             have n0_ := Aside0.mk (below_drew1 HB.out)
             clear HB
             have HB := n0_
             clear n0_
             have p806 : 0 ≤ (x5_1 : Int) := of_decide_eq_true az
             have q806 : x5_1 < (l0.length : Int) := of_decide_eq_true az
             obtain ⟨ad806, A806_0, c806_0, e806, hx806_0, hl806_0, hi806_0⟩ := at_T68 HR0.out x5_1 p806 q806
             have hw806_0 := hx806_0
             cases e806
             replace hx806_0 := ck HB hx806_0
             have HR806_0 := Aside0.mk hi806_0
             have HC806_0 := Aside0.mk hl806_0
             clear hi806_0 hl806_0
             replace p806 := eq_true p806
             replace q806 := eq_true q806
             have p807 : 0 ≤ (x5_1 : Int) := of_decide_eq_true az
             have q807 : x5_1 < (l1.length : Int) := of_decide_eq_true az
             obtain ⟨ad807, A807_0, c807_0, e807, hx807_0, hl807_0, hi807_0⟩ := at_T68 HR1.out x5_1 p807 q807
             have hw807_0 := hx807_0
             cases e807
             replace hx807_0 := ck HB hx807_0
             have HR807_0 := Aside0.mk hi807_0
             have HC807_0 := Aside0.mk hl807_0
             clear hi807_0 hl807_0
             replace p807 := eq_true p807
             replace q807 := eq_true q807
             refine start_ (n := 10) (S := fun w' => w'.cell? (ad806.add (x5_1).toNat) = some (.slice A806_0 ((rd_T68 l0 x5_1).f0).length c806_0) ∧ w'.cell? (ad807.add (x5_1).toNat) = some (.slice A807_0 ((rd_T68 l1 x5_1).f0).length c807_0)) (ds := []) #[false, false, false, false, false, false, false, false, false, false] (by kernel_rfl) rfl rfl ⟨(ck HB hw806_0), (ck HB hw807_0)⟩ (fun hHeld => ?_); refine with_tabW laws_eqObjectS.tab6 laws_eqObjectS.bits6 (fun HT_ HW_ => ?_)
             generalize wr.drew = w9 at HB HR806_0 HR807_0 hx806_0 hx807_0 hHeld ⊢
             refine pure_ (i := 0) (N := some 17) (v := ?_) (a' := ?_) #[true, false, false, false, false, false, false, false, false, false] rfl rfl (any_of HT_.out (by kernel_rfl)) (fun _ _ _ h => h) (Or.inl ⟨by rfl, ?_⟩) ?_ ?_
             rotate_left
             · intro w'
               go_simp
               with_reducible rfl
             rotate_left
             · simp only [Act.put, sx1, sx2, sx3, i64_w, i32_w]
               rfl
             refine pure_ (i := 1) (N := some 18) (v := ?_) (a' := ?_) #[true, true, false, false, false, false, false, false, false, false] rfl rfl (any_of HT_.out (by kernel_rfl)) (fun _ _ _ h => h) (Or.inl ⟨by rfl, ?_⟩) ?_ ?_
             rotate_left
             · intro w'
               go_simp
               with_reducible rfl
             rotate_left
             · simp only [Act.put, sx1, sx2, sx3, i64_w, i32_w]
               rfl
             refine pure_ (i := 2) (N := some 19) (v := ?_) (a' := ?_) #[true, true, true, false, false, false, false, false, false, false] rfl rfl (any_of HT_.out (by kernel_rfl)) (fun _ _ _ h => h) (Or.inl ⟨by rfl, ?_⟩) ?_ ?_
             rotate_left
             · intro w'
               go_simp
               with_reducible rfl
             rotate_left
             · simp only [Act.put, sx1, sx2, sx3, i64_w, i32_w]
               rfl
             refine pure_ (i := 4) (N := some 21) (v := ?_) (a' := ?_) #[true, true, true, false, true, false, false, false, false, false] rfl rfl (any_of HT_.out (by kernel_rfl)) (fun _ _ _ h => h) (Or.inl ⟨by rfl, ?_⟩) ?_ ?_
             rotate_left
             · intro w'
               go_simp
               with_reducible rfl
             rotate_left
             · simp only [Act.put, sx1, sx2, sx3, i64_w, i32_w]
               rfl
             refine pure_ (i := 5) (N := some 22) (v := ?_) (a' := ?_) #[true, true, true, false, true, true, false, false, false, false] rfl rfl (any_of HT_.out (by kernel_rfl)) (fun _ _ _ h => h) (Or.inl ⟨by rfl, ?_⟩) ?_ ?_
             rotate_left
             · intro w'
               go_simp
               with_reducible rfl
             rotate_left
             · simp only [Act.put, sx1, sx2, sx3, i64_w, i32_w]
               rfl
             refine pure_ (i := 6) (N := some 23) (v := ?_) (a' := ?_) #[true, true, true, false, true, true, true, false, false, false] rfl rfl (any_of HT_.out (by kernel_rfl)) (fun _ _ _ h => h) (Or.inl ⟨by rfl, ?_⟩) ?_ ?_
             rotate_left
             · intro w'
               go_simp
               with_reducible rfl
             rotate_left
             · simp only [Act.put, sx1, sx2, sx3, i64_w, i32_w]
               rfl
             refine take_ (i := 3) (N := some 20) (v := ?_) (a' := ?_) #[true, true, true, true, true, true, true, false, false, false] rfl rfl (take_ofW HT_.out HW_.out (by kernel_rfl)) (fun _ _ _ h => h) (Or.inl ⟨by rfl, ?_⟩) hHeld ?_ ?_
             rotate_left
             · rintro w' ⟨s0, s1⟩
               go_simp
               with_reducible rfl
             rotate_left
             · simp only [Act.put, sx1, sx2, sx3, i64_w, i32_w]
               rfl
             refine take_ (i := 7) (N := some 24) (v := ?_) (a' := ?_) #[true, true, true, true, true, true, true, true, false, false] rfl rfl (take_ofW HT_.out HW_.out (by kernel_rfl)) (fun _ _ _ h => h) (Or.inl ⟨by rfl, ?_⟩) hHeld ?_ ?_
             rotate_left
             · rintro w' ⟨s0, s1⟩
               go_simp
               with_reducible rfl
             rotate_left
             · simp only [Act.put, sx1, sx2, sx3, i64_w, i32_w]
               rfl
             refine one_ (i := 8) (N := some 25) #[true, true, true, true, true, true, true, true, true, false] rfl rfl (one_of HT_.out (by kernel_rfl)) (by decide) (fun K hK => ?_)
             refine goes_ Try.func48 (by kernel_rfl) rfl #[.agg #[.slice A806_0 ((rd_T68 l0 x5_1).f0).length c806_0], .agg #[.slice A807_0 ((rd_T68 l1 x5_1).f0).length c807_0]] (by rfl) rfl rfl lz ?_
             with_reducible refine (laws_eqObject.calls k1 _ _ ((rd_T68 l0 x5_1).f0) _ _ ((rd_T68 l1 x5_1).f0) true _ ?side1 ?side2 ?side3 ?side4 A7.out).mono ?_
             (case side1 => exact cz HR806_0.out)
             (case side2 => exact HC806_0.out)
             (case side3 => exact cz HR807_0.out)
             (case side4 => exact HC807_0.out)
             rintro e w10 ⟨rfl, hb⟩
             refine ⟨_, rfl, ?_⟩
             have n0_ := Aside0.mk (below_step bz hb)
             clear HB
             have HB := n0_
             clear n0_
             (try clear hb)
             (try clear hb2)
             (try clear hk)
             (try clear hi)
             refine hK.out _ _ ⟨(ck HB hw806_0), (ck HB hw807_0)⟩ (fun hHeld => ?_)
             clear hK K
             refine norm_ (a' := ?_) ?_ ?_
             rotate_left
             · show Act.put _ (some 25) _ = _
               simp only [Act.put, sx1, sx2, sx3, i64_w, i32_w]
               rfl
             refine pure_ (i := 9) (N := some 26) (v := ?_) (a' := ?_) #[true, true, true, true, true, true, true, true, true, true] rfl rfl (any_of HT_.out (by kernel_rfl)) (fun _ _ _ h => h) (Or.inl ⟨by rfl, ?_⟩) ?_ ?_
             rotate_left
             · intro w'
               go_simp
               with_reducible rfl
             rotate_left
             · simp only [Act.put, sx1, sx2, sx3, i64_w, i32_w]
               rfl
             refine done_ (done_of HT_.out (by kernel_rfl)) ?_
             try go_wp2
             go_roundg k1
             case measure => have := HK1.out; omega
             case rel => exact ⟨(wrap64 (x5_1 + 1)), sz_, H', ⟨by have := HK1.out; omega⟩, ⟨ bz⟩⟩
           · replace c8 := Bool.eq_false_iff.mpr c8
             subst c8
             have H1 : (some false) = some r := by rw [if_neg (show ¬ (false = true) by decide)] at H; exact H
             clear H
             have H := H1
             clear H1
             obtain rfl := Option.some.inj H
             try go_wp2
             have n0_ := Aside0.mk (below_drew1 HB.out)
             clear HB
             have HB := n0_
             clear n0_
             have p806 : 0 ≤ (x5_1 : Int) := of_decide_eq_true az
             have q806 : x5_1 < (l0.length : Int) := of_decide_eq_true az
             obtain ⟨ad806, A806_0, c806_0, e806, hx806_0, hl806_0, hi806_0⟩ := at_T68 HR0.out x5_1 p806 q806
             have hw806_0 := hx806_0
             cases e806
             replace hx806_0 := ck HB hx806_0
             have HR806_0 := Aside0.mk hi806_0
             have HC806_0 := Aside0.mk hl806_0
             clear hi806_0 hl806_0
             replace p806 := eq_true p806
             replace q806 := eq_true q806
             have p807 : 0 ≤ (x5_1 : Int) := of_decide_eq_true az
             have q807 : x5_1 < (l1.length : Int) := of_decide_eq_true az
             obtain ⟨ad807, A807_0, c807_0, e807, hx807_0, hl807_0, hi807_0⟩ := at_T68 HR1.out x5_1 p807 q807
             have hw807_0 := hx807_0
             cases e807
             replace hx807_0 := ck HB hx807_0
             have HR807_0 := Aside0.mk hi807_0
             have HC807_0 := Aside0.mk hl807_0
             clear hi807_0 hl807_0
             replace p807 := eq_true p807
             replace q807 := eq_true q807
             refine start_ (n := 10) (S := fun w' => w'.cell? (ad806.add (x5_1).toNat) = some (.slice A806_0 ((rd_T68 l0 x5_1).f0).length c806_0) ∧ w'.cell? (ad807.add (x5_1).toNat) = some (.slice A807_0 ((rd_T68 l1 x5_1).f0).length c807_0)) (ds := []) #[false, false, false, false, false, false, false, false, false, false] (by kernel_rfl) rfl rfl ⟨(ck HB hw806_0), (ck HB hw807_0)⟩ (fun hHeld => ?_); refine with_tabW laws_eqObjectS.tab6 laws_eqObjectS.bits6 (fun HT_ HW_ => ?_)
             generalize wr.drew = w11 at HB HR806_0 HR807_0 hx806_0 hx807_0 hHeld ⊢
             refine pure_ (i := 0) (N := some 17) (v := ?_) (a' := ?_) #[true, false, false, false, false, false, false, false, false, false] rfl rfl (any_of HT_.out (by kernel_rfl)) (fun _ _ _ h => h) (Or.inl ⟨by rfl, ?_⟩) ?_ ?_
             rotate_left
             · intro w'
               go_simp
               with_reducible rfl
             rotate_left
             · simp only [Act.put, sx1, sx2, sx3, i64_w, i32_w]
               rfl
             refine pure_ (i := 1) (N := some 18) (v := ?_) (a' := ?_) #[true, true, false, false, false, false, false, false, false, false] rfl rfl (any_of HT_.out (by kernel_rfl)) (fun _ _ _ h => h) (Or.inl ⟨by rfl, ?_⟩) ?_ ?_
             rotate_left
             · intro w'
               go_simp
               with_reducible rfl
             rotate_left
             · simp only [Act.put, sx1, sx2, sx3, i64_w, i32_w]
               rfl
             refine pure_ (i := 2) (N := some 19) (v := ?_) (a' := ?_) #[true, true, true, false, false, false, false, false, false, false] rfl rfl (any_of HT_.out (by kernel_rfl)) (fun _ _ _ h => h) (Or.inl ⟨by rfl, ?_⟩) ?_ ?_
             rotate_left
             · intro w'
               go_simp
               with_reducible rfl
             rotate_left
             · simp only [Act.put, sx1, sx2, sx3, i64_w, i32_w]
               rfl
             refine pure_ (i := 4) (N := some 21) (v := ?_) (a' := ?_) #[true, true, true, false, true, false, false, false, false, false] rfl rfl (any_of HT_.out (by kernel_rfl)) (fun _ _ _ h => h) (Or.inl ⟨by rfl, ?_⟩) ?_ ?_
             rotate_left
             · intro w'
               go_simp
               with_reducible rfl
             rotate_left
             · simp only [Act.put, sx1, sx2, sx3, i64_w, i32_w]
               rfl
             refine pure_ (i := 5) (N := some 22) (v := ?_) (a' := ?_) #[true, true, true, false, true, true, false, false, false, false] rfl rfl (any_of HT_.out (by kernel_rfl)) (fun _ _ _ h => h) (Or.inl ⟨by rfl, ?_⟩) ?_ ?_
             rotate_left
             · intro w'
               go_simp
               with_reducible rfl
             rotate_left
             · simp only [Act.put, sx1, sx2, sx3, i64_w, i32_w]
               rfl
             refine pure_ (i := 6) (N := some 23) (v := ?_) (a' := ?_) #[true, true, true, false, true, true, true, false, false, false] rfl rfl (any_of HT_.out (by kernel_rfl)) (fun _ _ _ h => h) (Or.inl ⟨by rfl, ?_⟩) ?_ ?_
             rotate_left
             · intro w'
               go_simp
               with_reducible rfl
             rotate_left
             · simp only [Act.put, sx1, sx2, sx3, i64_w, i32_w]
               rfl
             refine take_ (i := 3) (N := some 20) (v := ?_) (a' := ?_) #[true, true, true, true, true, true, true, false, false, false] rfl rfl (take_ofW HT_.out HW_.out (by kernel_rfl)) (fun _ _ _ h => h) (Or.inl ⟨by rfl, ?_⟩) hHeld ?_ ?_
             rotate_left
             · rintro w' ⟨s0, s1⟩
               go_simp
               with_reducible rfl
             rotate_left
             · simp only [Act.put, sx1, sx2, sx3, i64_w, i32_w]
               rfl
             refine take_ (i := 7) (N := some 24) (v := ?_) (a' := ?_) #[true, true, true, true, true, true, true, true, false, false] rfl rfl (take_ofW HT_.out HW_.out (by kernel_rfl)) (fun _ _ _ h => h) (Or.inl ⟨by rfl, ?_⟩) hHeld ?_ ?_
             rotate_left
             · rintro w' ⟨s0, s1⟩
               go_simp
               with_reducible rfl
             rotate_left
             · simp only [Act.put, sx1, sx2, sx3, i64_w, i32_w]
               rfl
             refine one_ (i := 8) (N := some 25) #[true, true, true, true, true, true, true, true, true, false] rfl rfl (one_of HT_.out (by kernel_rfl)) (by decide) (fun K hK => ?_)
             refine goes_ Try.func48 (by kernel_rfl) rfl #[.agg #[.slice A806_0 ((rd_T68 l0 x5_1).f0).length c806_0], .agg #[.slice A807_0 ((rd_T68 l1 x5_1).f0).length c807_0]] (by rfl) rfl rfl lz ?_
             with_reducible refine (laws_eqObject.calls k1 _ _ ((rd_T68 l0 x5_1).f0) _ _ ((rd_T68 l1 x5_1).f0) false _ ?side1 ?side2 ?side3 ?side4 A7.out).mono ?_
             (case side1 => exact cz HR806_0.out)
             (case side2 => exact HC806_0.out)
             (case side3 => exact cz HR807_0.out)
             (case side4 => exact HC807_0.out)
             rintro e w12 ⟨rfl, hb⟩
             refine ⟨_, rfl, ?_⟩
             have n0_ := Aside0.mk (below_step bz hb)
             clear HB
             have HB := n0_
             clear n0_
             (try clear hb)
             (try clear hb2)
             (try clear hk)
             (try clear hi)
             refine hK.out _ _ ⟨(ck HB hw806_0), (ck HB hw807_0)⟩ (fun hHeld => ?_)
             clear hK K
             refine norm_ (a' := ?_) ?_ ?_
             rotate_left
             · show Act.put _ (some 25) _ = _
               simp only [Act.put, sx1, sx2, sx3, i64_w, i32_w]
               rfl
             refine pure_ (i := 9) (N := some 26) (v := ?_) (a' := ?_) #[true, true, true, true, true, true, true, true, true, true] rfl rfl (any_of HT_.out (by kernel_rfl)) (fun _ _ _ h => h) (Or.inl ⟨by rfl, ?_⟩) ?_ ?_
             rotate_left
             · intro w'
               go_simp
               with_reducible rfl
             rotate_left
             · simp only [Act.put, sx1, sx2, sx3, i64_w, i32_w]
               rfl
             refine done_ (done_of HT_.out (by kernel_rfl)) ?_
             try go_wp2
             go_ret
             exact ⟨by first | rfl | (simp [errW_none, errW_some] <;> rfl) | (simp [*, errW_none, errW_some] <;> rfl), bz⟩
         · rw [if_neg c6] at H
           exact absurd H (by simp)
       · rw [if_neg c5] at H
         exact absurd H (by simp)
     · rw [if_neg c4] at H
       have c4b0 : decide (x5_1 < (l0.length : Int)) = false := decide_eq_false c4
       clear c4
       obtain rfl := Option.some.inj H
       go_wp2
       go_ret
       exact ⟨by first | rfl | (simp [errW_none, errW_some] <;> rfl) | (simp [*, errW_none, errW_some] <;> rfl), bz⟩
 · rw [if_neg c3] at H
   have c3b0 : ((l0.length : Int) == (l1.length : Int)) = false := beq_eq_false_iff_ne.mpr c3
   have c3b1 : ((l0.length : Int) != (l1.length : Int)) = true := bne_iff_ne.mpr c3
   have c3b2 : (l0.length == l1.length) = false := by first | simpa using c3 | (simp at c3 ⊢; omega)
   obtain rfl := Option.some.inj H
   go_enter Try.func38, Try.ntmps38
   go_wp2
   go_ret
   exact ⟨by first | rfl | (simp [errW_none, errW_some] <;> rfl) | (simp [*, errW_none, errW_some] <;> rfl), bz⟩

end Go.Proofs.Ythegbhfoleiegaa.All

/- What a mark leaves: the same blocks, cell by cell of the same make; only numbers, strings and bools of the blocks of S have changed. Shapes are kept by it, whatever is shared. -/
namespace Go.Proofs.Ythegbhfoleiegaa.All
open Go.RowKit Go.Proofs.YthegbhfoleiegaaW.PrintWords Go.Proofs.YthegbhfoleiegaaW.PrintLast Go.Proofs.YthegbhfoleiegaaW.PrintMore
set_option linter.unusedVariables false
set_option linter.unusedSimpArgs false
def simV (u v : Value) : Prop := v = u ∨ (∃ k a b, u = .int k a ∧ v = .int k b) ∨ (∃ a b, u = .string a ∧ v = .string b) ∨ (∃ a b, u = .bool a ∧ v = .bool b)
theorem simV.refl (u : Value) : simV u u := .inl rfl
theorem simV.int (k : IntKind) (a b : Int) : simV (.int k a) (.int k b) := .inr (.inl ⟨k, a, b, rfl, rfl⟩)
theorem simV.string (a b : ByteArray) : simV (.string a) (.string b) := .inr (.inr (.inl ⟨a, b, rfl, rfl⟩))
theorem simV.bool (a b : Bool) : simV (.bool a) (.bool b) := .inr (.inr (.inr ⟨a, b, rfl, rfl⟩))
theorem simV.trans {u v x : Value} (h : simV u v) (h' : simV v x) : simV u x := by
  rcases h with rfl | ⟨k, a, b, rfl, rfl⟩ | ⟨a, b, rfl, rfl⟩ | ⟨a, b, rfl, rfl⟩
  · exact h'
  · rcases h' with rfl | ⟨k', a', b', e, rfl⟩ | ⟨a', b', e, rfl⟩ | ⟨a', b', e, rfl⟩
    · exact simV.int _ _ _
    · injection e with e1 e2; subst e1; exact simV.int _ _ _
    · cases e
    · cases e
  · rcases h' with rfl | ⟨k', a', b', e, rfl⟩ | ⟨a', b', e, rfl⟩ | ⟨a', b', e, rfl⟩
    · exact simV.string _ _
    · cases e
    · exact simV.string _ _
    · cases e
  · rcases h' with rfl | ⟨k', a', b', e, rfl⟩ | ⟨a', b', e, rfl⟩ | ⟨a', b', e, rfl⟩
    · exact simV.bool _ _
    · cases e
    · cases e
    · exact simV.bool _ _
structure Sim (w W : World) (S : Nat → Prop) : Prop where
  os : W.os = w.os
  tape : W.tape = w.tape
  output : W.output = w.output
  size : w.heap.size ≤ W.heap.size
  out : ∀ b, b < w.heap.size → ¬ S b → W.heap[b]? = w.heap[b]?
  cells : ∀ (b : Nat) (cs : Array Value) (t : TypeId) (fr : Nat × Nat), w.heap[b]? = some (.cells cs t fr) → ∃ cs' : Array Value, W.heap[b]? = some (.cells cs' t fr) ∧ cs'.size = cs.size ∧ ∀ (j : Nat) (u : Value), cs[j]? = some u → ∃ v, cs'[j]? = some v ∧ simV u v
theorem Sim.refl (w : World) (S : Nat → Prop) : Sim w w S := ⟨rfl, rfl, rfl, Nat.le_refl _, fun _ _ _ => rfl, fun _ cs _ _ h => ⟨cs, h, rfl, fun _ u hu => ⟨u, hu, simV.refl u⟩⟩⟩
theorem Sim.trans {w W X : World} {S : Nat → Prop} (h : Sim w W S) (h' : Sim W X S) : Sim w X S := by
  refine ⟨h'.os.trans h.os, h'.tape.trans h.tape, h'.output.trans h.output, Nat.le_trans h.size h'.size, fun b hb hS => (h'.out b (Nat.lt_of_lt_of_le hb h.size) hS).trans (h.out b hb hS), fun b cs t fr hc => ?_⟩
  obtain ⟨c1, h1, s1, e1⟩ := h.cells b cs t fr hc
  obtain ⟨c2, h2, s2, e2⟩ := h'.cells b c1 t fr h1
  refine ⟨c2, h2, s2.trans s1, fun j u hu => ?_⟩
  obtain ⟨v, hv, x1⟩ := e1 j u hu
  obtain ⟨x, hx, x2⟩ := e2 j v hv
  exact ⟨x, hx, x1.trans x2⟩
theorem Sim.mono {w W : World} {S S' : Nat → Prop} (h : Sim w W S) (hs : ∀ k, S k → S' k) : Sim w W S' := ⟨h.os, h.tape, h.output, h.size, fun b hb hn => h.out b hb (fun k => hn (hs b k)), h.cells⟩
theorem Sim.of_below {w W : World} (h : Below w.heap.size w W) (S : Nat → Prop) : Sim w W S :=
  ⟨h.os, h.tape, h.output, h.size, fun b hb _ => h.block b hb, fun b cs _ _ hc => ⟨cs, (h.block b (blk_lt hc)).trans hc, rfl, fun _ u hu => ⟨u, hu, simV.refl u⟩⟩⟩
theorem Sim.drewN {w W : World} {S : Nat → Prop} (h : Sim w W S) (n : Nat) : Sim w (W.drewN n) S := ⟨h.os, h.tape, h.output, h.size, h.out, h.cells⟩
theorem Sim.drew {w W : World} {S : Nat → Prop} (h : Sim w W S) : Sim w W.drew S := ⟨h.os, h.tape, h.output, h.size, h.out, h.cells⟩
theorem Sim.set {W : World} {S : Nat → Prop} {g j : Nat} {cs : Array Value} {t : TypeId} (hb : W.heap[g]? = some (.cells cs t (0, 0))) {u v : Value} (hu : cs[j]? = some u) (hs : simV u v) (hS : S g) : Sim W (W.setCell ⟨g, j, none⟩ v) S := by
  refine ⟨rfl, rfl, rfl, by simp, fun b _ hn => Below.heap_setCell W ⟨g, j, none⟩ v b (fun e => hn (e ▸ hS)), fun b c t' fr hc => ?_⟩
  by_cases e : b = g
  · subst e
    rw [hb] at hc
    injection hc with hc
    injection hc with h1 h2 h3
    subst h1 h2 h3
    refine ⟨_, blk_set hb j v, by simp, fun i x hx => ?_⟩
    by_cases hi : i = j
    · subst hi
      rw [hu] at hx
      injection hx with hx
      subst hx
      have hl : i < cs.size := (Array.getElem?_eq_some_iff.1 hu).1
      exact ⟨v, by simp [Array.getElem?_setIfInBounds, hl], hs⟩
    · exact ⟨x, by rw [Array.getElem?_setIfInBounds_ne (Ne.symm hi)]; exact hx, simV.refl x⟩
  · exact ⟨c, (Below.heap_setCell W ⟨g, j, none⟩ v b e).trans hc, rfl, fun _ x hx => ⟨x, hx, simV.refl x⟩⟩
theorem Sim.setc {w W : World} {S : Nat → Prop} (h : Sim w W S) {g j : Nat} {t : TypeId} (hb : ∃ cs : Array Value, W.heap[g]? = some (.cells cs t (0, 0))) {u v : Value} (hu : W.cell? ⟨g, j, none⟩ = some u) (hs : simV u v) (hS : S g) : Sim w (W.setCell ⟨g, j, none⟩ v) S := by
  obtain ⟨cs, hb⟩ := hb
  rw [blk_cell hb j] at hu
  exact h.trans (Sim.set hb hu hs hS)
/-- A row's block under a change of this kind. -/
theorem Sim.blk {w W : World} {S : Nat → Prop} (h : Sim w W S) {g : Nat} {t : TypeId} (hb : ∃ cs : Array Value, w.heap[g]? = some (.cells cs t (0, 0))) : ∃ cs : Array Value, W.heap[g]? = some (.cells cs t (0, 0)) := by
  obtain ⟨cs, hb⟩ := hb
  obtain ⟨cs', h1, _⟩ := h.cells g cs t _ hb
  exact ⟨cs', h1⟩
theorem Sim.cell {w W : World} {S : Nat → Prop} (h : Sim w W S) {g j : Nat} {t : TypeId} (hb : ∃ cs : Array Value, w.heap[g]? = some (.cells cs t (0, 0))) {u : Value} (hu : w.cell? ⟨g, j, none⟩ = some u) : ∃ v, W.cell? ⟨g, j, none⟩ = some v ∧ simV u v := by
  obtain ⟨cs, hb⟩ := hb
  obtain ⟨cs', h1, _, h3⟩ := h.cells g cs t _ hb
  rw [blk_cell hb] at hu
  obtain ⟨v, hv, hs⟩ := h3 j u hu
  exact ⟨v, by rw [blk_cell h1]; exact hv, hs⟩
theorem Sim.frozen {w W : World} {S : Nat → Prop} (h : Sim w W S) {g j : Nat} {t : TypeId} (hb : ∃ cs : Array Value, w.heap[g]? = some (.cells cs t (0, 0))) : W.frozen? ⟨g, j, none⟩ = false := by
  obtain ⟨cs, h1⟩ := h.blk hb
  exact blk_frozen h1 j
theorem Sim.kept {w W : World} {S : Nat → Prop} (h : Sim w W S) : Kept w W S := ⟨h.size, h.out⟩
theorem Sim.below0 {w0 w W : World} {S : Nat → Prop} (h : Sim w W S) (hB : Below w0.heap.size w0 w) (hS : ∀ k, S k → w0.heap.size ≤ k) : Below w0.heap.size w0 W :=
  ⟨h.os.trans hB.os, h.tape.trans hB.tape, h.output.trans hB.output, Nat.le_trans hB.size h.size, fun k hk => (h.out k (Nat.lt_of_lt_of_le hk hB.size) (fun hs => by have := hS k hs; omega)).trans (hB.block k hk)⟩
/-! A kind whose values stay of one shape. -/
structure Shp {α : Type} (d : Kd α) where
  same : α → α → Prop
  refl : ∀ x, same x x
  sim : ∀ {w W : World} {S : Nat → Prop} {base : Nat} {ok : Nat → Prop} {x : α} {cs cs' : List Value}, Sim w W S → d.M w base ok x cs → cs'.length = cs.length → (∀ (j : Nat) (u : Value), cs[j]? = some u → ∃ v, cs'[j]? = some v ∧ simV u v) → ∃ x', d.M W base ok x' cs' ∧ same x x'
theorem list_of_all {α : Type} {P : Nat → α → Prop} : ∀ n : Nat, (∀ j, j < n → ∃ x, P j x) → ∃ l : List α, l.length = n ∧ ∀ (j : Nat) (x : α), l[j]? = some x → P j x
  | 0, _ => ⟨[], rfl, fun j x h => by simp at h⟩
  | n + 1, h => by
    obtain ⟨l, hl, hp⟩ := list_of_all n (fun j hj => h j (by omega))
    obtain ⟨x, hx⟩ := h n (by omega)
    refine ⟨l ++ [x], by simp [hl], fun j y hy => ?_⟩
    by_cases hj : j < n
    · rw [List.getElem?_append_left (by omega)] at hy
      exact hp j y hy
    · have hlt := (List.getElem?_eq_some_iff.1 hy).1
      simp [hl] at hlt
      have : j = n := by omega
      subst this
      rw [List.getElem?_append_right (by omega)] at hy
      simp [hl] at hy
      subst hy
      exact hx
def sameL {α : Type} (s : α → α → Prop) (xs ys : List α) : Prop := ys.length = xs.length ∧ ∀ (j : Nat) (x y : α), xs[j]? = some x → ys[j]? = some y → s x y
theorem sameL.refl {α : Type} {s : α → α → Prop} (h : ∀ x, s x x) (xs : List α) : sameL s xs xs := ⟨rfl, fun j x y hx hy => by rw [hx] at hy; injection hy with hy; subst hy; exact h x⟩
theorem Shp.R {α : Type} {d : Kd α} (sd : Shp d) {e : Nat} {w W : World} {S : Nat → Prop} {base : Nat} {ok : Nat → Prop} {v : Value} {xs : List α} (hs : Sim w W S) (h : d.R e w base ok v xs) : ∃ xs', d.R e W base ok v xs' ∧ sameL sd.same xs xs' := by
  obtain ⟨h0, inner, ⟨hil, ho⟩, hr⟩ := h
  rcases ho with ⟨rfl, hn⟩ | ⟨g, cap, cur, rfl, hb, hg, hnc, hcm, hcs, hin⟩
  · obtain rfl : xs = [] := List.eq_nil_of_length_eq_zero hn
    exact ⟨[], Kd.R_mono (Kd.R_nil d e W base _) (fun k hk => hk), ⟨rfl, fun j x y hx => by simp at hx⟩⟩
  · obtain ⟨cur', hg', hsz', hc'⟩ := hs.cells g cur e _ hg
    have hlen : cur.toList.length = cap * d.sz := by rw [Array.length_toList]; exact hcs
    have hmul : xs.length * d.sz ≤ cap * d.sz := Nat.mul_le_mul_right _ hnc
    have hel : ∀ j, j < xs.length → ∃ x', d.M W base (fun k => ok k ∧ some k ≠ (Value.slice (some ⟨g, 0, none⟩) xs.length cap).ownBlock) x' (((cur'.toList.take (xs.length * d.sz)).drop (j * d.sz)).take d.sz) ∧ ∀ x, xs[j]? = some x → sd.same x x' := by
      intro j hj
      have hx : xs[j]? = some xs[j] := List.getElem?_eq_getElem hj
      have hM := hr.2 j _ hx
      have hseg : j * d.sz + d.sz ≤ xs.length * d.sz := by rw [← Nat.succ_mul]; exact Nat.mul_le_mul_right _ hj
      obtain ⟨x', hM', hs'⟩ := sd.sim hs hM (cs' := ((cur'.toList.take (xs.length * d.sz)).drop (j * d.sz)).take d.sz) (by
        simp only [List.length_take, List.length_drop, Array.length_toList, ← hin, hsz']) (by
        intro i u hu
        rw [← hin] at hu
        rw [List.getElem?_take] at hu ⊢
        split at hu
        · rename_i hi
          rw [if_pos hi]
          rw [List.getElem?_drop, List.getElem?_take] at hu ⊢
          split at hu
          · rename_i h2
            rw [if_pos h2]
            rw [Array.getElem?_toList] at hu
            obtain ⟨v, hv, hsv⟩ := hc' _ u hu
            exact ⟨v, by rw [Array.getElem?_toList]; exact hv, hsv⟩
          · cases hu
        · cases hu)
      exact ⟨x', hM', fun x he => by rw [hx] at he; injection he with he; subst he; exact hs'⟩
    obtain ⟨xs', hl', hp'⟩ := list_of_all xs.length hel
    refine ⟨xs', ⟨h0, cur'.toList.take (xs.length * d.sz), ⟨?_, .inr ⟨g, cap, cur', by rw [hl'], hb, hg', by rw [hl']; exact hnc, hcm, hsz'.trans hcs, by rw [hl']⟩⟩, ?_, fun j p hj => (hp' j p hj).1⟩, hl', fun j x y hx hy => (hp' j y hy).2 x hx⟩
    · have e1 : cur'.toList.length = cap * d.sz := by rw [Array.length_toList, hsz', hcs]
      rw [List.length_take, e1, hl']; omega
    · have e1 : cur'.toList.length = cap * d.sz := by rw [Array.length_toList, hsz', hcs]
      rw [List.length_take, e1, hl']; omega
def Shp.int (k : IntKind) : Shp (Kd.int k) where
  same := fun _ _ => True
  refl := fun _ => trivial
  sim := by
    rintro w W S base ok x cs cs' _ rfl hl hc
    obtain ⟨v, hv, hs⟩ := hc 0 _ rfl
    obtain ⟨y, rfl⟩ : ∃ y, v = .int k y := by
      rcases hs with rfl | ⟨k', a, b, e, rfl⟩ | ⟨a, b, e, rfl⟩ | ⟨a, b, e, rfl⟩
      · exact ⟨x, rfl⟩
      · injection e with e1 _; subst e1; exact ⟨b, rfl⟩
      · cases e
      · cases e
    refine ⟨y, ?_, trivial⟩
    match cs', hl, hv with
    | [c], _, hv => simp at hv; subst hv; rfl
def Shp.string : Shp Kd.string where
  same := fun _ _ => True
  refl := fun _ => trivial
  sim := by
    rintro w W S base ok x cs cs' _ rfl hl hc
    obtain ⟨v, hv, hs⟩ := hc 0 _ rfl
    obtain ⟨y, rfl⟩ : ∃ y, v = .string y := by
      rcases hs with rfl | ⟨k', a, b, e, rfl⟩ | ⟨a, b, e, rfl⟩ | ⟨a, b, e, rfl⟩
      · exact ⟨x, rfl⟩
      · cases e
      · exact ⟨b, rfl⟩
      · cases e
    refine ⟨y, ?_, trivial⟩
    match cs', hl, hv with
    | [c], _, hv => simp at hv; subst hv; rfl
def Shp.bool : Shp Kd.bool where
  same := fun _ _ => True
  refl := fun _ => trivial
  sim := by
    rintro w W S base ok x cs cs' _ rfl hl hc
    obtain ⟨v, hv, hs⟩ := hc 0 _ rfl
    obtain ⟨y, rfl⟩ : ∃ y, v = .bool y := by
      rcases hs with rfl | ⟨k', a, b, e, rfl⟩ | ⟨a, b, e, rfl⟩ | ⟨a, b, e, rfl⟩
      · exact ⟨x, rfl⟩
      · cases e
      · cases e
      · exact ⟨b, rfl⟩
    refine ⟨y, ?_, trivial⟩
    match cs', hl, hv with
    | [c], _, hv => simp at hv; subst hv; rfl
def Shp.slice {α : Type} {d : Kd α} (e : Nat) (sd : Shp d) : Shp (Kd.slice e d) where
  same := sameL sd.same
  refl := sameL.refl sd.refl
  sim := by
    rintro w W S base ok x cs cs' hs ⟨v, rfl, hR⟩ hl hc
    obtain ⟨v', hv, hsv⟩ := hc 0 _ rfl
    obtain ⟨A, c, rfl⟩ := Kd.R_slice hR
    obtain rfl : v' = .slice A x.length c := by
      rcases hsv with h | ⟨k', a, b, e, _⟩ | ⟨a, b, e, _⟩ | ⟨a, b, e, _⟩
      · exact h
      · cases e
      · cases e
      · cases e
    obtain ⟨xs', h1, h2⟩ := sd.R hs hR
    refine ⟨xs', ⟨_, ?_, h1⟩, h2⟩
    match cs', hl, hv with
    | [c], _, hv => simp at hv; subst hv; rfl
def Shp.pair {α β : Type} {a : Kd α} {b : Kd β} (sa : Shp a) (sb : Shp b) : Shp (Kd.pair a b) where
  same := fun x y => sa.same x.1 y.1 ∧ sb.same x.2 y.2
  refl := fun x => ⟨sa.refl _, sb.refl _⟩
  sim := by
    rintro w W S base ok x cs cs' hs ⟨c0, c1, rfl, h0, h1⟩ hl hc
    have l0 := a.K_len (a.K_of_M h0)
    have l1 := b.K_len (b.K_of_M h1)
    rw [List.length_append] at hl
    obtain ⟨y0, m0, s0⟩ := sa.sim (cs' := cs'.take c0.length) hs h0 (by rw [List.length_take]; omega) (by
      intro j u hu
      have hj := (List.getElem?_eq_some_iff.1 hu).1
      obtain ⟨v, hv, hsv⟩ := hc j u (by rw [List.getElem?_append_left hj]; exact hu)
      exact ⟨v, by rw [List.getElem?_take, if_pos hj]; exact hv, hsv⟩)
    obtain ⟨y1, m1, s1⟩ := sb.sim (cs' := cs'.drop c0.length) hs h1 (by rw [List.length_drop]; omega) (by
      intro j u hu
      obtain ⟨v, hv, hsv⟩ := hc (c0.length + j) u (by rw [List.getElem?_append_right (by omega), Nat.add_sub_cancel_left]; exact hu)
      exact ⟨v, by rw [List.getElem?_drop]; exact hv, hsv⟩)
    exact ⟨(y0, y1), ⟨cs'.take c0.length, cs'.drop c0.length, (List.take_append_drop _ _).symm, m0, m1⟩, s0, s1⟩
def Shp.iso {α β : Type} {d : Kd α} (sd : Shp d) (f : β → α) (g : α → β) (h : ∀ y, f (g y) = y) : Shp (Kd.iso d f) where
  same := fun x y => sd.same (f x) (f y)
  refl := fun x => sd.refl _
  sim := by
    intro w W S base ok x cs cs' hs hM hl hc
    obtain ⟨y, m, s⟩ := sd.sim hs (show d.M w base ok (f x) cs from hM) hl hc
    refine ⟨g y, ?_, by rw [h]; exact s⟩
    show d.M W base ok (f (g y)) cs'
    rw [h]
    exact m
/-- What is made is bounded below by its base. -/
theorem Kd.R_based {α : Type} {d : Kd α} {e base : Nat} {w : World} {ok : Nat → Prop} {v : Value} {xs : List α} (h : d.R e w base ok v xs) : d.R e w base (fun k => ok k ∧ base ≤ k) v xs := Kd.R_mono (Kd.R_bound h) (fun _ hk => ⟨hk.1, hk.2.1⟩)
theorem sameL_sum {α : Type} {s : α → α → Prop} {c : α → Nat} : ∀ {xs ys : List α}, sameL s xs ys → (∀ x y, s x y → c y = c x) → (ys.map c).sum = (xs.map c).sum
  | [], [], _, _ => rfl
  | [], _ :: _, h, _ => by have := h.1; simp at this
  | _ :: _, [], h, _ => by have := h.1; simp at this
  | x :: xs, y :: ys, h, hc => by
    have h1 := hc x y (h.2 0 x y rfl rfl)
    have h2 := sameL_sum (xs := xs) (ys := ys) ⟨by have := h.1; simpa using this, fun j a b ha hb => h.2 (j + 1) a b (by simpa using ha) (by simpa using hb)⟩ hc
    simp [h1, h2]
theorem sum_take_succ {α : Type} (c : α → Nat) (z : α) : ∀ (xs : List α) (m : Nat), m < xs.length → ((xs.take (m + 1)).map c).sum = ((xs.take m).map c).sum + c (xs.getD m z)
  | x :: xs, 0, _ => by simp
  | x :: xs, m + 1, h => by
    have := sum_take_succ c z xs m (by simpa using h)
    simp only [List.take_succ_cons, List.map_cons, List.sum_cons, List.getD_cons_succ] at this ⊢
    omega
theorem sum_take_le {α : Type} (c : α → Nat) : ∀ (xs : List α) (m : Nat), ((xs.take m).map c).sum ≤ (xs.map c).sum
  | [], m => by simp
  | x :: xs, 0 => by simp
  | x :: xs, m + 1 => by
    have := sum_take_le c xs m
    simp only [List.take_succ_cons, List.map_cons, List.sum_cons]
    omega
theorem Sim.scal_int {w W : World} {S : Nat → Prop} (h : Sim w W S) {g j : Nat} {t : TypeId} (hb : ∃ cs : Array Value, w.heap[g]? = some (.cells cs t (0, 0))) {k : IntKind} {a : Int} (hu : w.cell? ⟨g, j, none⟩ = some (.int k a)) : ∃ b, W.cell? ⟨g, j, none⟩ = some (.int k b) := by
  obtain ⟨v, hv, hs⟩ := h.cell hb hu
  rcases hs with rfl | ⟨k', a', b', e, rfl⟩ | ⟨a', b', e, rfl⟩ | ⟨a', b', e, rfl⟩
  · exact ⟨_, hv⟩
  · injection e with e1 _; subst e1; exact ⟨_, hv⟩
  · cases e
  · cases e
theorem Sim.scal_string {w W : World} {S : Nat → Prop} (h : Sim w W S) {g j : Nat} {t : TypeId} (hb : ∃ cs : Array Value, w.heap[g]? = some (.cells cs t (0, 0))) {a : ByteArray} (hu : w.cell? ⟨g, j, none⟩ = some (.string a)) : ∃ b, W.cell? ⟨g, j, none⟩ = some (.string b) := by
  obtain ⟨v, hv, hs⟩ := h.cell hb hu
  rcases hs with rfl | ⟨k', a', b', e, rfl⟩ | ⟨a', b', e, rfl⟩ | ⟨a', b', e, rfl⟩
  · exact ⟨_, hv⟩
  · cases e
  · exact ⟨_, hv⟩
  · cases e
theorem Sim.slc {w W : World} {S : Nat → Prop} (h : Sim w W S) {g j : Nat} {t : TypeId} (hb : ∃ cs : Array Value, w.heap[g]? = some (.cells cs t (0, 0))) {A : Option Addr} {n c : Nat} (hu : w.cell? ⟨g, j, none⟩ = some (.slice A n c)) : W.cell? ⟨g, j, none⟩ = some (.slice A n c) := by
  obtain ⟨v, hv, hs⟩ := h.cell hb hu
  rcases hs with rfl | ⟨k', a', b', e, rfl⟩ | ⟨a', b', e, rfl⟩ | ⟨a', b', e, rfl⟩
  · exact hv
  · cases e
  · cases e
  · cases e
theorem Sim.putw {w W : World} {S : Nat → Prop} {g j : Nat} {t : TypeId} {k : IntKind} {a b : Int} (h : Sim w W S) (hb : ∃ cs : Array Value, w.heap[g]? = some (.cells cs t (0, 0))) (hu : w.cell? ⟨g, j, none⟩ = some (.int k a)) (hS : S g) : Sim w (W.setCell ⟨g, j, none⟩ (.int k b)) S := by
  obtain ⟨b', hv⟩ := h.scal_int hb hu
  exact h.setc (h.blk hb) hv (simV.int _ _ _) hS
theorem Sim.puts {w W : World} {S : Nat → Prop} {g j : Nat} {t : TypeId} {a b : ByteArray} (h : Sim w W S) (hb : ∃ cs : Array Value, w.heap[g]? = some (.cells cs t (0, 0))) (hu : w.cell? ⟨g, j, none⟩ = some (.string a)) (hS : S g) : Sim w (W.setCell ⟨g, j, none⟩ (.string b)) S := by
  obtain ⟨b', hv⟩ := h.scal_string hb hu
  exact h.setc (h.blk hb) hv (simV.string _ _) hS
theorem Kd.R_slice' {α : Type} {d : Kd α} {e base : Nat} {w : World} {ok : Nat → Prop} {v : Value} {xs : List α} (h : d.R e w base ok v xs) : ∃ (A : Option Addr) (n c : Nat), v = .slice A n c := by
  obtain ⟨A, c, e⟩ := Kd.R_slice h
  exact ⟨A, _, c, e⟩
/-- A call's world, under a name. -/
theorem calls_at {P : Program} {f : FuncId} {args : Array Value} {w : World} {Q : Ending → World → Prop} (I : World → Prop) (hw : I w) (h : ∀ W, I W → Calls P f args W Q) : Calls P f args w Q := h w hw
theorem len_le_sum {α : Type} {c : α → Nat} : ∀ (xs : List α), (∀ x, 1 ≤ c x) → xs.length ≤ (xs.map c).sum
  | [], _ => Nat.le_refl _
  | x :: xs, h => by
    have h1 := h x
    have h2 := len_le_sum xs h
    simp only [List.length_cons, List.map_cons, List.sum_cons]
    omega
end Go.Proofs.Ythegbhfoleiegaa.All

namespace Go.Proofs.Ythegbhfoleiegaa.All
open Go.RowKit Go.Proofs.YthegbhfoleiegaaW.PrintWords Go.Proofs.YthegbhfoleiegaaW.PrintLast Go.Proofs.YthegbhfoleiegaaW.PrintMore
attribute [local go_sem] max2_int min2_int max_two min_two max_three min_three max_four min_four   -- for this text's walks alone
set_option linter.unusedVariables false
set_option linter.unusedSimpArgs false

def laws_markText.l0 : Nat → Int → ByteArray → Option (ByteArray)
 | 0, _, _ => none
 | k + 1, x0, x3 => if x0 > 0 then ((some (([(wrap64 (48 + (Int.tmod x0 10))) % 256] : List Int) : List Int)).bind fun y283 => (if (strOfNums y283).size + x3.size ≤ 9223372036854775807 then (laws_markText.l0 k (wrap64 (Int.tdiv x0 10)) ((strOfNums y283) ++ x3)) else (none))) else (if 1 + x3.size ≤ 9223372036854775807 then (some ((⟨#[109]⟩ : ByteArray) ++ x3)) else (none))
def laws_markText.f (k : Nat) (a0 : Int) : Option (ByteArray) := if a0 ≤ 0 then (some (⟨#[109, 48]⟩ : ByteArray)) else (laws_markText.l0 k a0 (⟨#[]⟩ : ByteArray))
set_option maxHeartbeats 8000000 in
set_option maxRecDepth 100000 in
theorem laws_markText.calls (k : Nat) (a0 : Int) (r : ByteArray) (w : World) (h : laws_markText.f k a0 = some r) :
 Calls Try.prog 135 #[.int .i64 a0] w fun e w' => e = .returned (.string r) ∧ Below w.heap.size w w' := by
 have HB := Aside0.mk (Below.refl w.heap.size w)
 have H : (if a0 ≤ 0 then (some (⟨#[109, 48]⟩ : ByteArray)) else (laws_markText.l0 k a0 (⟨#[]⟩ : ByteArray))) = some r := h
 clear h
 by_cases c2 : a0 ≤ 0
 · rw [if_pos c2] at H
   have c2b0 : decide (a0 ≤ 0) = true := decide_eq_true c2
   clear c2
   obtain rfl := Option.some.inj H
   go_enter Try.func135, Try.ntmps135
   go_wp2
   go_ret
   exact ⟨by first | rfl | (simp [errW_none, errW_some] <;> rfl) | (simp [*, errW_none, errW_some] <;> rfl), bz⟩
 · rw [if_neg c2] at H
   have c2b0 : decide (a0 ≤ 0) = false := decide_eq_false c2
   clear c2
   have H' := Aside0.mk H
   clear H
   go_enter Try.func135, Try.ntmps135
   go_wp2
   go_loopg [0, 3] k (fun kq v0 v3 w' => ∃ (x0_1 : Int) (x3_1 : ByteArray), v0 = .int .i64 x0_1 ∧ v3 = .string x3_1 ∧ Aside0 (laws_markText.l0 kq x0_1 x3_1 = some r) ∧ Aside0 (kq ≤ k) ∧ Aside0 (Below w.heap.size w w'))
   case atStart => exact ⟨(a0), ((⟨#[]⟩ : ByteArray)), sz_, sz_, H', ⟨Nat.le_refl _⟩, ⟨ bz⟩⟩
   case round =>
    clear H'
    try clear c1
    try clear c2
    try clear c2b0
    try clear p2
    obtain ⟨x0_1, x3_1, rfl, rfl, HA, HK1, HB⟩ := hrel
    cases gk with
    | zero => exact absurd HA.out (by simp [laws_markText.l0])
    | succ k1 =>
     have H := HA.out
     clear HA
     simp only [laws_markText.l0] at H
     by_cases c3 : x0_1 > 0
     · rw [if_pos c3] at H
       have c3b0 : decide (0 < x0_1) = true := decide_eq_true c3
       clear c3
       obtain ⟨y283, hy283⟩ : ∃ y_ : List Int, y_ = (([(wrap64 (48 + (Int.tmod x0_1 10))) % 256] : List Int)) := ⟨_, rfl⟩
       replace H : (if (strOfNums y283).size + x3_1.size ≤ 9223372036854775807 then (laws_markText.l0 k1 (wrap64 (Int.tdiv x0_1 10)) ((strOfNums y283) ++ x3_1)) else (none)) = some r := by first | (rw [hy283]; with_reducible exact H) | (have H2_ := (Option.bind_some _ _).symm.trans H; rw [hy283]; with_reducible exact H2_) | (have H2_ := (Option.bind_some _ _).symm.trans H; with_reducible exact H2_) | with_reducible exact H | (rw [hy283]; exact H) | exact H
       have Ny283 := Aside0.mk hy283
       clear hy283
       by_cases c4 : (strOfNums y283).size + x3_1.size ≤ 9223372036854775807
       · rw [if_pos c4] at H
         have c4b0 := eq_true c4
         have c4b1 : decide ((strOfNums y283).size + x3_1.size ≤ 9223372036854775807) = true := decide_eq_true c4
         try have c4b2 : (9223372036854775807 < (strOfNums y283).size + x3_1.size) = False := eq_false (Nat.not_lt.2 c4)
         have H' := Aside0.mk H
         clear H
         go_wp2_with (first | ((with_reducible refine gate_dst (N := 12) rfl ?_); refine Kd.R_lit (Kd.int .u8) _ 5 ?hg (N := 12) ?hd (xs := ([(wrap64 (48 + (Int.tmod x0_1 10))) % 256] : List Int)) (inner := [.int .u8 ((wrap64 (48 + (Int.tmod x0_1 10))) % 256)]) (ok := fun _ => True) (okp := fun _ => True) ?hr ?hp (fun _ hk => hk) trivial (Below.refl _ _) (Nat.le_refl _) (by simp) ?_; (case hd => rfl); (case hg => rfl); (case hr => first | (go_simp; done) | (go_simp; rfl)); (case hp => exact (Reps.one (show Kd.M (Kd.int .u8) _ _ _ ((wrap64 (48 + (Int.tmod x0_1 10))) % 256) [.int .u8 ((wrap64 (48 + (Int.tmod x0_1 10))) % 256)] from rfl) (Reps.none _ _))); intro v284 w5 ho6 hb hg_ hnew_; clear hg_ hnew_; (first | rw [← Ny283.out] at ho6 | (simp only [Int.reduceToNat] at ho6; rw [← Ny283.out] at ho6)); have n0_ := Aside0.mk (Kd.R_lower ho6 (below_size bz)); have n1_ := Aside0.mk (below_step bz hb); clear HB; have HO285 := n0_; have HB := n1_; clear n0_ n1_; clear hb ho6; have hcv7 := own_string (P := Try.prog) Try.underlying72 Try.underlying5 Try.underlying9 (Kd.own_of_R HO285.out)))
         go_roundg k1
         case measure => have := HK1.out; omega
         case rel => exact ⟨(wrap64 (Int.tdiv x0_1 10)), ((strOfNums y283) ++ x3_1), sz_, sz_, H', ⟨by have := HK1.out; omega⟩, ⟨ bz⟩⟩
       · rw [if_neg c4] at H
         exact absurd H (by simp)
     · rw [if_neg c3] at H
       have c3b0 : decide (0 < x0_1) = false := decide_eq_false c3
       clear c3
       by_cases c8 : 1 + x3_1.size ≤ 9223372036854775807
       · rw [if_pos c8] at H
         have c8b0 := eq_true c8
         have c8b1 : decide (1 + x3_1.size ≤ 9223372036854775807) = true := decide_eq_true c8
         try have c8b2 : (9223372036854775807 < 1 + x3_1.size) = False := eq_false (Nat.not_lt.2 c8)
         obtain rfl := Option.some.inj H
         go_wp2
         go_ret
         exact ⟨by first | rfl | (simp [errW_none, errW_some] <;> rfl) | (simp [*, errW_none, errW_some] <;> rfl), bz⟩
       · rw [if_neg c8] at H
         exact absurd H (by simp)

end Go.Proofs.Ythegbhfoleiegaa.All

/- The laws' text of a mark: it is made, whatever the number. -/
namespace Go.Proofs.Ythegbhfoleiegaa.All
open Go.RowKit Go.Proofs.YthegbhfoleiegaaW.PrintWords Go.Proofs.YthegbhfoleiegaaW.PrintLast Go.Proofs.YthegbhfoleiegaaW.PrintMore
set_option linter.unusedVariables false
set_option linter.unusedSimpArgs false
theorem strOfNums_one (a : Int) : (strOfNums [a]).size = 1 := by simp [strOfNums, ByteArray.size]
theorem markText_l0 : ∀ (d : Nat) (x : Int) (s : ByteArray), 0 ≤ x → x < 10 ^ d → d ≤ 18 → s.size + d ≤ 1000 → ∃ K r, laws_markText.l0 K x s = some r
  | 0, x, s, h0, h1, _, h3 => by
    have : x = 0 := by simp at h1; omega
    subst this
    refine ⟨1, (⟨#[109]⟩ : ByteArray) ++ s, ?_⟩
    rw [laws_markText.l0, if_neg (by omega), if_pos (by omega)]
  | d + 1, x, s, h0, h1, h2, h3 => by
    by_cases hx : x > 0
    · have e1 : Int.tdiv x 10 = x / 10 := Int.tdiv_eq_ediv_of_nonneg h0
      have b0 : (10 : Int) ^ (d + 1) = 10 ^ d * 10 := Int.pow_succ ..
      have b1 : (10 : Int) ^ d ≤ 10 ^ 17 := by
        have : (10 : Nat) ^ d ≤ 10 ^ 17 := Nat.pow_le_pow_right (by omega) (by omega)
        exact_mod_cast this
      have e2 : wrap64 (Int.tdiv x 10) = x / 10 := by rw [e1]; unfold wrap64; omega
      obtain ⟨K, r, hK⟩ := markText_l0 d (x / 10) (strOfNums [(wrap64 (48 + (Int.tmod x 10))) % 256] ++ s) (by omega) (by omega) (by omega) (by rw [ByteArray.size_append, strOfNums_one]; omega)
      refine ⟨K + 1, r, ?_⟩
      rw [laws_markText.l0, if_pos hx, Option.bind_some, if_pos (by rw [strOfNums_one]; omega), e2]
      exact hK
    · refine ⟨1, (⟨#[109]⟩ : ByteArray) ++ s, ?_⟩
      rw [laws_markText.l0, if_neg hx, if_pos (by omega)]
theorem markText_c (x : Int) (w : World) (h0 : 0 ≤ x) (h1 : x ≤ 1000000000000) : Calls Try.prog 135 #[.int .i64 x] w fun e w' => ∃ r, e = .returned (.string r) ∧ Below w.heap.size w w' := by
  by_cases hx : x ≤ 0
  · exact (laws_markText.calls 0 x _ w (by unfold laws_markText.f; rw [if_pos hx])).mono fun e w' h => ⟨_, h.1, h.2⟩
  · obtain ⟨K, r, hK⟩ := markText_l0 13 x ⟨#[]⟩ h0 (by omega) (by omega) (by simp [ByteArray.size])
    exact (laws_markText.calls K x r w (by unfold laws_markText.f; rw [if_neg hx]; exact hK)).mono fun e w' h => ⟨_, h.1, h.2⟩
end Go.Proofs.Ythegbhfoleiegaa.All

/- The walks of the laws' mark functions, as what they leave. Printed by gen_mark.py. -/
namespace Go.Proofs.Ythegbhfoleiegaa.All
open Go.RowKit Go.Proofs.YthegbhfoleiegaaW.PrintWords Go.Proofs.YthegbhfoleiegaaW.PrintLast Go.Proofs.YthegbhfoleiegaaW.PrintMore
set_option linter.unusedVariables false
set_option linter.unusedSimpArgs false
def cntL_int64 (xs : List Int) : Nat := xs.length
theorem cntL_int64_same {xs ys : List Int} (h : sameL (Shp.int .i64).same xs ys) : cntL_int64 ys = cntL_int64 xs := h.1
theorem cntL_int64_take (xs : List Int) (m : Nat) (h : m < xs.length) : cntL_int64 (xs.take (m + 1)) = cntL_int64 (xs.take m) + 1 := by unfold cntL_int64; rw [List.length_take, List.length_take]; omega
theorem cntL_int64_le (xs : List Int) (m : Nat) : cntL_int64 (xs.take m) ≤ cntL_int64 xs := by unfold cntL_int64; rw [List.length_take]; omega
theorem cntL_int64_len (xs : List Int) : xs.length ≤ cntL_int64 xs := Nat.le_refl _
def cntL_uint8 (xs : List Int) : Nat := xs.length
theorem cntL_uint8_same {xs ys : List Int} (h : sameL (Shp.int .u8).same xs ys) : cntL_uint8 ys = cntL_uint8 xs := h.1
theorem cntL_uint8_take (xs : List Int) (m : Nat) (h : m < xs.length) : cntL_uint8 (xs.take (m + 1)) = cntL_uint8 (xs.take m) + 1 := by unfold cntL_uint8; rw [List.length_take, List.length_take]; omega
theorem cntL_uint8_le (xs : List Int) (m : Nat) : cntL_uint8 (xs.take m) ≤ cntL_uint8 xs := by unfold cntL_uint8; rw [List.length_take]; omega
theorem cntL_uint8_len (xs : List Int) : xs.length ≤ cntL_uint8 xs := Nat.le_refl _
def cnt_Reloc (x : S132) : Nat := 3
def cntL_Reloc (xs : List S132) : Nat := (xs.map cnt_Reloc).sum
def shp_Reloc : Shp k132 := Shp.iso (Shp.pair (Shp.int .i64) (Shp.pair (Shp.int .i64) Shp.string)) (fun x : S132 => (x.f0, x.f1, x.f2)) (fun y => ⟨y.1, y.2.1, y.2.2⟩) (fun _ => rfl)
theorem cnt_Reloc_same {x y : S132} (h : shp_Reloc.same x y) : cnt_Reloc y = cnt_Reloc x := rfl
theorem cntL_Reloc_same {xs ys : List S132} (h : sameL shp_Reloc.same xs ys) : cntL_Reloc ys = cntL_Reloc xs := sameL_sum h (fun _ _ h => cnt_Reloc_same h)
theorem cntL_Reloc_take (xs : List S132) (m : Nat) (h : m < xs.length) : cntL_Reloc (xs.take (m + 1)) = cntL_Reloc (xs.take m) + cnt_Reloc (xs.getD m z132) := sum_take_succ _ _ xs m h
theorem cntL_Reloc_len (xs : List S132) : xs.length ≤ cntL_Reloc xs := len_le_sum xs (fun x => by unfold cnt_Reloc; omega)
theorem cntL_Reloc_le (xs : List S132) (m : Nat) : cntL_Reloc (xs.take m) ≤ cntL_Reloc xs := sum_take_le _ xs m
def cnt_Section (x : S130) : Nat := 5 + cntL_int64 x.f4 + cntL_uint8 x.f6 + cntL_Reloc x.f7
def cntL_Section (xs : List S130) : Nat := (xs.map cnt_Section).sum
def shp_Section : Shp k130 := Shp.iso (Shp.pair Shp.string (Shp.pair (Shp.int .i64) (Shp.pair (Shp.int .i64) (Shp.pair (Shp.int .i64) (Shp.pair (Shp.slice 2 (Shp.int .i64)) (Shp.pair (Shp.int .i64) (Shp.pair (Shp.slice 5 (Shp.int .u8)) (Shp.slice 132 shp_Reloc)))))))) (fun x : S130 => (x.f0, x.f1, x.f2, x.f3, x.f4, x.f5, x.f6, x.f7)) (fun y => ⟨y.1, y.2.1, y.2.2.1, y.2.2.2.1, y.2.2.2.2.1, y.2.2.2.2.2.1, y.2.2.2.2.2.2.1, y.2.2.2.2.2.2.2⟩) (fun _ => rfl)
theorem cnt_Section_same {x y : S130} (h : shp_Section.same x y) : cnt_Section y = cnt_Section x := by
  have e4 : cntL_int64 y.f4 = cntL_int64 x.f4 := cntL_int64_same h.2.2.2.2.1
  have e6 : cntL_uint8 y.f6 = cntL_uint8 x.f6 := cntL_uint8_same h.2.2.2.2.2.2.1
  have e7 : cntL_Reloc y.f7 = cntL_Reloc x.f7 := cntL_Reloc_same h.2.2.2.2.2.2.2
  unfold cnt_Section
  rw [e4, e6, e7]
theorem cntL_Section_same {xs ys : List S130} (h : sameL shp_Section.same xs ys) : cntL_Section ys = cntL_Section xs := sameL_sum h (fun _ _ h => cnt_Section_same h)
theorem cntL_Section_take (xs : List S130) (m : Nat) (h : m < xs.length) : cntL_Section (xs.take (m + 1)) = cntL_Section (xs.take m) + cnt_Section (xs.getD m z130) := sum_take_succ _ _ xs m h
theorem cntL_Section_len (xs : List S130) : xs.length ≤ cntL_Section xs := len_le_sum xs (fun x => by unfold cnt_Section; omega)
theorem cntL_Section_le (xs : List S130) (m : Nat) : cntL_Section (xs.take m) ≤ cntL_Section xs := sum_take_le _ xs m
def cnt_Object (x : S68) : Nat := cntL_Section x.f0
def cntL_Object (xs : List S68) : Nat := (xs.map cnt_Object).sum
theorem cntL_Object_take (xs : List S68) (m : Nat) (h : m < xs.length) : cntL_Object (xs.take (m + 1)) = cntL_Object (xs.take m) + cnt_Object (xs.getD m z68) := sum_take_succ _ _ xs m h
theorem cntL_Object_le (xs : List S68) (m : Nat) : cntL_Object (xs.take m) ≤ cntL_Object xs := sum_take_le _ xs m
theorem laws_markInt64S.elem {w : World} {base g n cap : Nat} {ok : Nat → Prop} {xs : List Int} (hR : (Kd.int .i64).R 2 w base ok (.slice (some ⟨g, 0, none⟩) n cap) xs) (m : Nat) (h1 : m < n) : ∃ y0, w.cell? ⟨g, m, none⟩ = some (.int .i64 y0) := by
  obtain ⟨e, _⟩ := Kd.R_celln 0 hR (m : Int) (by omega) (by omega)
  exact ⟨_, by simpa using e⟩
set_option maxHeartbeats 4000000 in
set_option maxRecDepth 100000 in
theorem laws_markInt64S.sim (v : Value) (xs : List Int) (a1 : Int) (w : World) (base : Nat) (ok : Nat → Prop) (h0 : 0 ≤ a1) (hb : a1 + cntL_int64 xs ≤ 1000000000000) (hR : (Kd.int .i64).R 2 w base ok v xs) :
    Calls Try.prog 21 #[v, .int .i64 a1] w fun e w' => e = .returned (.int .i64 (a1 + cntL_int64 xs)) ∧ Sim w w' (fun k => ok k ∧ base ≤ k) := by
  have HR := Aside0.mk (Kd.R_based hR)
  clear hR
  obtain ⟨A, c, rfl⟩ := Kd.R_slice HR.out
  have hl0 : xs.length ≤ 1000000000000 := by have := cntL_int64_len xs; omega
  have HB := Aside0.mk hb
  clear hb
  go_enter Try.func21, Try.ntmps21
  go_wp2
  go_loopw [1, 5] (fun v1 v5 w' => ∃ m : Nat, m ≤ xs.length ∧ v1 = .int .i64 (a1 + cntL_int64 (xs.take m)) ∧ v5 = .int .i64 (m : Int) ∧ Aside0 (Sim w w' (fun k => ok k ∧ base ≤ k))) (fun _ v5 _ => xs.length - (intOf v5).toNat)
  case atStart => exact ⟨0, Nat.zero_le _, by simp [cntL_int64], rfl, ⟨Sim.refl _ _⟩⟩
  case round =>
    obtain ⟨m, hm, rfl, rfl, HS⟩ := hrel
    have hle := cntL_int64_le xs m
    by_cases hlt : m < xs.length
    · have htk := cntL_int64_take xs m hlt
      have hle1 := cntL_int64_le xs (m + 1)
      obtain ⟨g, cap, eg, _, _, gc⟩ := Kd.R_form HR.out (by omega)
      injection eg with ea _ ec
      subst ea
      subst ec
      have GS : ok g ∧ base ≤ g := HR.out.1 g rfl
      have HG := Aside0.mk GS
      clear GS
      have GC := Aside0.mk gc
      clear gc
      obtain ⟨y0, c0⟩ := laws_markInt64S.elem HR.out m hlt
      obtain ⟨X, hX⟩ : ∃ X : Int, X = a1 + cntL_int64 (xs.take m) := ⟨_, rfl⟩
      rw [← hX]
      have hbb := HB.out
      have hX0 : 0 ≤ X := by omega
      have hX1 : X + 1 ≤ 1000000000000 := by omega
      have C0 := Aside0.mk c0
      clear c0
      have hfin : a1 + cntL_int64 (xs.take (m + 1)) = X + 1 := by omega
      have FIN := Aside0.mk hfin
      have HX := Aside0.mk hX
      clear hfin hX htk hle hle1 hbb
      obtain ⟨d0, e0⟩ := HS.out.scal_int GC.out C0.out
      have z0 := HS.out.frozen (j := m) GC.out
      go_wp2
      go_roundw
      case measure => simp [intOf]; omega
      case rel => exact ⟨m + 1, by omega, by (first | (rw [FIN.out]; done) | (rw [FIN.out]; go_num)), by go_num, ⟨by repeat (first | exact HS.out | (with_reducible refine Sim.putw ?_ GC.out (by first | exact C0.out) HG.out))⟩⟩
    · have : m = xs.length := by omega
      subst this
      rw [List.take_length]
      go_wp2
      go_ret
      exact ⟨rfl, HS.out⟩
theorem laws_markByteS.elem {w : World} {base g n cap : Nat} {ok : Nat → Prop} {xs : List Int} (hR : (Kd.int .u8).R 5 w base ok (.slice (some ⟨g, 0, none⟩) n cap) xs) (m : Nat) (h1 : m < n) : ∃ y0, w.cell? ⟨g, m, none⟩ = some (.int .u8 y0) := by
  obtain ⟨e, _⟩ := Kd.R_celln 0 hR (m : Int) (by omega) (by omega)
  exact ⟨_, by simpa using e⟩
set_option maxHeartbeats 4000000 in
set_option maxRecDepth 100000 in
theorem laws_markByteS.sim (v : Value) (xs : List Int) (a1 : Int) (w : World) (base : Nat) (ok : Nat → Prop) (h0 : 0 ≤ a1) (hb : a1 + cntL_uint8 xs ≤ 1000000000000) (hR : (Kd.int .u8).R 5 w base ok v xs) :
    Calls Try.prog 54 #[v, .int .i64 a1] w fun e w' => e = .returned (.int .i64 (a1 + cntL_uint8 xs)) ∧ Sim w w' (fun k => ok k ∧ base ≤ k) := by
  have HR := Aside0.mk (Kd.R_based hR)
  clear hR
  obtain ⟨A, c, rfl⟩ := Kd.R_slice HR.out
  have hl0 : xs.length ≤ 1000000000000 := by have := cntL_uint8_len xs; omega
  have HB := Aside0.mk hb
  clear hb
  go_enter Try.func54, Try.ntmps54
  go_wp2
  go_loopw [1, 5] (fun v1 v5 w' => ∃ m : Nat, m ≤ xs.length ∧ v1 = .int .i64 (a1 + cntL_uint8 (xs.take m)) ∧ v5 = .int .i64 (m : Int) ∧ Aside0 (Sim w w' (fun k => ok k ∧ base ≤ k))) (fun _ v5 _ => xs.length - (intOf v5).toNat)
  case atStart => exact ⟨0, Nat.zero_le _, by simp [cntL_uint8], rfl, ⟨Sim.refl _ _⟩⟩
  case round =>
    obtain ⟨m, hm, rfl, rfl, HS⟩ := hrel
    have hle := cntL_uint8_le xs m
    by_cases hlt : m < xs.length
    · have htk := cntL_uint8_take xs m hlt
      have hle1 := cntL_uint8_le xs (m + 1)
      obtain ⟨g, cap, eg, _, _, gc⟩ := Kd.R_form HR.out (by omega)
      injection eg with ea _ ec
      subst ea
      subst ec
      have GS : ok g ∧ base ≤ g := HR.out.1 g rfl
      have HG := Aside0.mk GS
      clear GS
      have GC := Aside0.mk gc
      clear gc
      obtain ⟨y0, c0⟩ := laws_markByteS.elem HR.out m hlt
      obtain ⟨X, hX⟩ : ∃ X : Int, X = a1 + cntL_uint8 (xs.take m) := ⟨_, rfl⟩
      rw [← hX]
      have hbb := HB.out
      have hX0 : 0 ≤ X := by omega
      have hX1 : X + 1 ≤ 1000000000000 := by omega
      have C0 := Aside0.mk c0
      clear c0
      have hfin : a1 + cntL_uint8 (xs.take (m + 1)) = X + 1 := by omega
      have FIN := Aside0.mk hfin
      have HX := Aside0.mk hX
      clear hfin hX htk hle hle1 hbb
      obtain ⟨d0, e0⟩ := HS.out.scal_int GC.out C0.out
      have z0 := HS.out.frozen (j := m) GC.out
      go_wp2
      go_roundw
      case measure => simp [intOf]; omega
      case rel => exact ⟨m + 1, by omega, by (first | (rw [FIN.out]; done) | (rw [FIN.out]; go_num)), by go_num, ⟨by repeat (first | exact HS.out | (with_reducible refine Sim.putw ?_ GC.out (by first | exact C0.out) HG.out))⟩⟩
    · have : m = xs.length := by omega
      subst this
      rw [List.take_length]
      go_wp2
      go_ret
      exact ⟨rfl, HS.out⟩
theorem laws_markRelocS.elem {w : World} {base g n cap : Nat} {ok : Nat → Prop} {xs : List S132} (hR : k132.R 132 w base ok (.slice (some ⟨g, 0, none⟩) n cap) xs) (m : Nat) (h1 : m < n) : ∃ (x : S132), x = xs.getD m z132 ∧ w.cell? ⟨g, m * 3, none⟩ = some (.int .i64 x.f0) ∧ w.cell? ⟨g, m * 3 + 1, none⟩ = some (.int .i64 x.f1) ∧ w.cell? ⟨g, m * 3 + 2, none⟩ = some (.string x.f2) := by
  obtain ⟨c, hl, hM, hc, _⟩ := Kd.R_elem hR z132 (m : Int) (by omega) (by omega)
  simp only [Int.toNat_natCast] at hM hc
  obtain rfl := k132_openM hM
  exact ⟨_, rfl, hc 0 _ rfl, hc 1 _ rfl, hc 2 _ rfl⟩
set_option maxHeartbeats 4000000 in
set_option maxRecDepth 100000 in
theorem laws_markRelocS.sim (v : Value) (xs : List S132) (a1 : Int) (w : World) (base : Nat) (ok : Nat → Prop) (h0 : 0 ≤ a1) (hb : a1 + cntL_Reloc xs ≤ 1000000000000) (hR : k132.R 132 w base ok v xs) :
    Calls Try.prog 136 #[v, .int .i64 a1] w fun e w' => e = .returned (.int .i64 (a1 + cntL_Reloc xs)) ∧ Sim w w' (fun k => ok k ∧ base ≤ k) := by
  have HR := Aside0.mk (Kd.R_based hR)
  clear hR
  obtain ⟨A, c, rfl⟩ := Kd.R_slice HR.out
  have hl0 : xs.length ≤ 1000000000000 := by have := cntL_Reloc_len xs; omega
  have HB := Aside0.mk hb
  clear hb
  go_enter Try.func136, Try.ntmps136
  go_wp2
  go_loopw [1, 5] (fun v1 v5 w' => ∃ m : Nat, m ≤ xs.length ∧ v1 = .int .i64 (a1 + cntL_Reloc (xs.take m)) ∧ v5 = .int .i64 (m : Int) ∧ Aside0 (Sim w w' (fun k => ok k ∧ base ≤ k))) (fun _ v5 _ => xs.length - (intOf v5).toNat)
  case atStart => exact ⟨0, Nat.zero_le _, by simp [cntL_Reloc], rfl, ⟨Sim.refl _ _⟩⟩
  case round =>
    obtain ⟨m, hm, rfl, rfl, HS⟩ := hrel
    have hle := cntL_Reloc_le xs m
    by_cases hlt : m < xs.length
    · have htk := cntL_Reloc_take xs m hlt
      have hle1 := cntL_Reloc_le xs (m + 1)
      obtain ⟨g, cap, eg, _, _, gc⟩ := Kd.R_form HR.out (by omega)
      injection eg with ea _ ec
      subst ea
      subst ec
      have GS : ok g ∧ base ≤ g := HR.out.1 g rfl
      have HG := Aside0.mk GS
      clear GS
      have GC := Aside0.mk gc
      clear gc
      obtain ⟨x, hx, c0, c1, c2⟩ := laws_markRelocS.elem HR.out m hlt
      rw [← hx] at htk
      have hcx : cnt_Reloc x = 3 := rfl
      obtain ⟨X, hX⟩ : ∃ X : Int, X = a1 + cntL_Reloc (xs.take m) := ⟨_, rfl⟩
      rw [← hX]
      have hbb := HB.out
      have hX0 : 0 ≤ X := by omega
      have hX1 : X + 3 ≤ 1000000000000 := by omega
      have C0 := Aside0.mk c0
      clear c0
      have C1 := Aside0.mk c1
      clear c1
      have C2 := Aside0.mk c2
      clear c2
      have hfin : a1 + cntL_Reloc (xs.take (m + 1)) = X + 3 := by omega
      have FIN := Aside0.mk hfin
      have HX := Aside0.mk hX
      have HXX := Aside0.mk hx
      clear hx hcx
      clear hfin hX htk hle hle1 hbb
      obtain ⟨d0, e0⟩ := HS.out.scal_int GC.out C0.out
      have z0 := HS.out.frozen (j := m * 3) GC.out
      obtain ⟨d1, e1⟩ := HS.out.scal_int GC.out C1.out
      have z1 := HS.out.frozen (j := m * 3 + 1) GC.out
      go_wp2_with (first | (go_at_call 135; refine calls_at (fun W => Sim w W (fun k => ok k ∧ base ≤ k)) ?hs_2 ?_; (case hs_2 => repeat (first | exact HS.out | (with_reducible refine Sim.putw ?_ GC.out (by first | exact C0.out | exact C1.out) HG.out) | (with_reducible refine Sim.puts ?_ GC.out (by first | exact C2.out) HG.out))); intro W2 hs2; refine (markText_c _ W2 ?pa_2 ?pb_2).mono ?_; (case pa_2 => omega); (case pb_2 => omega); rintro e w2 ⟨r2, rfl, h2⟩; have HS2 := Aside0.mk (hs2.trans (Sim.of_below h2 _)); clear hs2 h2 e0 e1 z0 z1; obtain ⟨d2, e2⟩ := HS2.out.scal_string GC.out C2.out; have z2 := HS2.out.frozen (j := m * 3 + 2) GC.out))
      go_roundw
      case measure => simp [intOf]; omega
      case rel => exact ⟨m + 1, by omega, by (first | (rw [FIN.out]; done) | (rw [FIN.out]; go_num)), by go_num, ⟨by repeat (first | exact HS2.out | (with_reducible refine Sim.putw ?_ GC.out (by first | exact C0.out | exact C1.out) HG.out) | (with_reducible refine Sim.puts ?_ GC.out (by first | exact C2.out) HG.out))⟩⟩
    · have : m = xs.length := by omega
      subst this
      rw [List.take_length]
      go_wp2
      go_ret
      exact ⟨rfl, HS.out⟩
theorem laws_markSectionS.elem {w : World} {base g n cap : Nat} {ok : Nat → Prop} {xs : List S130} (hR : k130.R 130 w base ok (.slice (some ⟨g, 0, none⟩) n cap) xs) (m : Nat) (h1 : m < n) : ∃ (x : S130) (v4 : Value) (v6 : Value) (v7 : Value), x = xs.getD m z130 ∧ w.cell? ⟨g, m * 8, none⟩ = some (.string x.f0) ∧ w.cell? ⟨g, m * 8 + 1, none⟩ = some (.int .i64 x.f1) ∧ w.cell? ⟨g, m * 8 + 2, none⟩ = some (.int .i64 x.f2) ∧ w.cell? ⟨g, m * 8 + 3, none⟩ = some (.int .i64 x.f3) ∧ w.cell? ⟨g, m * 8 + 4, none⟩ = some v4 ∧ w.cell? ⟨g, m * 8 + 5, none⟩ = some (.int .i64 x.f5) ∧ w.cell? ⟨g, m * 8 + 6, none⟩ = some v6 ∧ w.cell? ⟨g, m * 8 + 7, none⟩ = some v7 ∧ (Kd.int .i64).R 2 w base ok v4 x.f4 ∧ (Kd.int .u8).R 5 w base ok v6 x.f6 ∧ k132.R 132 w base ok v7 x.f7 := by
  obtain ⟨c, hl, hM, hc, _⟩ := Kd.R_elem hR z130 (m : Int) (by omega) (by omega)
  simp only [Int.toNat_natCast] at hM hc
  obtain ⟨v4, v6, v7, rfl, r4, r6, r7⟩ := k130_openM hM
  exact ⟨_, v4, v6, v7, rfl, hc 0 _ rfl, hc 1 _ rfl, hc 2 _ rfl, hc 3 _ rfl, hc 4 _ rfl, hc 5 _ rfl, hc 6 _ rfl, hc 7 _ rfl, Kd.R_mono r4 (fun _ hk => hk.1), Kd.R_mono r6 (fun _ hk => hk.1), Kd.R_mono r7 (fun _ hk => hk.1)⟩
set_option maxHeartbeats 4000000 in
set_option maxRecDepth 100000 in
theorem laws_markSectionS.sim (v : Value) (xs : List S130) (a1 : Int) (w : World) (base : Nat) (ok : Nat → Prop) (h0 : 0 ≤ a1) (hb : a1 + cntL_Section xs ≤ 1000000000000) (hR : k130.R 130 w base ok v xs) :
    Calls Try.prog 89 #[v, .int .i64 a1] w fun e w' => e = .returned (.int .i64 (a1 + cntL_Section xs)) ∧ Sim w w' (fun k => ok k ∧ base ≤ k) := by
  have HR := Aside0.mk (Kd.R_based hR)
  clear hR
  obtain ⟨A, c, rfl⟩ := Kd.R_slice HR.out
  have hl0 : xs.length ≤ 1000000000000 := by have := cntL_Section_len xs; omega
  have HB := Aside0.mk hb
  clear hb
  go_enter Try.func89, Try.ntmps89
  go_wp2
  go_loopw [1, 5] (fun v1 v5 w' => ∃ m : Nat, m ≤ xs.length ∧ v1 = .int .i64 (a1 + cntL_Section (xs.take m)) ∧ v5 = .int .i64 (m : Int) ∧ Aside0 (Sim w w' (fun k => ok k ∧ base ≤ k))) (fun _ v5 _ => xs.length - (intOf v5).toNat)
  case atStart => exact ⟨0, Nat.zero_le _, by simp [cntL_Section], rfl, ⟨Sim.refl _ _⟩⟩
  case round =>
    obtain ⟨m, hm, rfl, rfl, HS⟩ := hrel
    have hle := cntL_Section_le xs m
    by_cases hlt : m < xs.length
    · have htk := cntL_Section_take xs m hlt
      have hle1 := cntL_Section_le xs (m + 1)
      obtain ⟨g, cap, eg, _, _, gc⟩ := Kd.R_form HR.out (by omega)
      injection eg with ea _ ec
      subst ea
      subst ec
      have GS : ok g ∧ base ≤ g := HR.out.1 g rfl
      have HG := Aside0.mk GS
      clear GS
      have GC := Aside0.mk gc
      clear gc
      obtain ⟨x, v4, v6, v7, hx, c0, c1, c2, c3, c4, c5, c6, c7, r4, r6, r7⟩ := laws_markSectionS.elem HR.out m hlt
      rw [← hx] at htk
      have hcx : cnt_Section x = 5 + cntL_int64 x.f4 + cntL_uint8 x.f6 + cntL_Reloc x.f7 := rfl
      obtain ⟨X, hX⟩ : ∃ X : Int, X = a1 + cntL_Section (xs.take m) := ⟨_, rfl⟩
      rw [← hX]
      have hbb := HB.out
      have hX0 : 0 ≤ X := by omega
      have hX1 : X + 5 + (cntL_int64 x.f4 : Nat) + (cntL_uint8 x.f6 : Nat) + (cntL_Reloc x.f7 : Nat) ≤ 1000000000000 := by omega
      obtain ⟨q4, hq4⟩ : ∃ q : Nat, q = cntL_int64 x.f4 := ⟨_, rfl⟩
      rw [← hq4] at hX1 hcx
      obtain ⟨q6, hq6⟩ : ∃ q : Nat, q = cntL_uint8 x.f6 := ⟨_, rfl⟩
      rw [← hq6] at hX1 hcx
      obtain ⟨q7, hq7⟩ : ∃ q : Nat, q = cntL_Reloc x.f7 := ⟨_, rfl⟩
      rw [← hq7] at hX1 hcx
      have R4 := Aside0.mk r4
      clear r4
      have R6 := Aside0.mk r6
      clear r6
      have R7 := Aside0.mk r7
      clear r7
      have C0 := Aside0.mk c0
      clear c0
      have C1 := Aside0.mk c1
      clear c1
      have C2 := Aside0.mk c2
      clear c2
      have C3 := Aside0.mk c3
      clear c3
      have C4 := Aside0.mk c4
      clear c4
      have C5 := Aside0.mk c5
      clear c5
      have C6 := Aside0.mk c6
      clear c6
      have C7 := Aside0.mk c7
      clear c7
      have hfin : a1 + cntL_Section (xs.take (m + 1)) = X + 5 + (q4 : Nat) + (q6 : Nat) + (q7 : Nat) := by omega
      have FIN := Aside0.mk hfin
      have HX := Aside0.mk hX
      have HXX := Aside0.mk hx
      clear hx hcx
      have HQ4 := Aside0.mk hq4
      clear hq4
      have HQ6 := Aside0.mk hq6
      clear hq6
      have HQ7 := Aside0.mk hq7
      clear hq7
      clear hfin hX htk hle hle1 hbb
      go_wp2_with (first | (go_at_call 135; refine calls_at (fun W => Sim w W (fun k => ok k ∧ base ≤ k)) ?hs_0 ?_; (case hs_0 => repeat (first | exact HS.out | (with_reducible refine Sim.putw ?_ GC.out (by first | exact C1.out | exact C2.out | exact C3.out | exact C5.out) HG.out) | (with_reducible refine Sim.puts ?_ GC.out (by first | exact C0.out) HG.out))); intro W0 hs0; refine (markText_c _ W0 ?pa_0 ?pb_0).mono ?_; (case pa_0 => omega); (case pb_0 => omega); rintro e w0 ⟨r0, rfl, h0⟩; have HS0 := Aside0.mk (hs0.trans (Sim.of_below h0 _)); clear hs0 h0  ; obtain ⟨d0, e0⟩ := HS0.out.scal_string GC.out C0.out; have z0 := HS0.out.frozen (j := m * 8) GC.out; obtain ⟨d1, e1⟩ := HS0.out.scal_int GC.out C1.out; have z1 := HS0.out.frozen (j := m * 8 + 1) GC.out; obtain ⟨d2, e2⟩ := HS0.out.scal_int GC.out C2.out; have z2 := HS0.out.frozen (j := m * 8 + 2) GC.out; obtain ⟨d3, e3⟩ := HS0.out.scal_int GC.out C3.out; have z3 := HS0.out.frozen (j := m * 8 + 3) GC.out; obtain ⟨A4, n4, k4, s4⟩ := Kd.R_slice' R4.out; have e4 := HS0.out.slc GC.out (C4.out.trans (congrArg some s4)); have S4 := Aside0.mk s4; clear s4) | (go_at_call 21; refine calls_at (fun W => Sim w W (fun k => ok k ∧ base ≤ k)) ?hs_4 ?_; (case hs_4 => repeat (first | exact HS0.out | (with_reducible refine Sim.putw ?_ GC.out (by first | exact C1.out | exact C2.out | exact C3.out | exact C5.out) HG.out) | (with_reducible refine Sim.puts ?_ GC.out (by first | exact C0.out) HG.out))); intro W4 hs4; obtain ⟨l4, P4, L4⟩ := Shp.R (Shp.int .i64) hs4 R4.out; rw [S4.out] at P4; have hl4 := cntL_int64_same L4; have hq4 := HQ4.out; refine (laws_markInt64S.sim _ l4 _ W4 base _ ?pa_4 ?pb_4 P4).mono ?_; (case pa_4 => omega); (case pb_4 => omega); rintro e w4 ⟨rfl, h4⟩; have HS4 := Aside0.mk (hs4.trans (h4.mono (fun _ hk => ⟨hk.1.1, hk.2⟩))); rw [hl4, ← hq4]; clear hs4 h4 hl4 hq4 P4 L4 e0 e1 e2 e3 e4 z0 z1 z2 z3; obtain ⟨d5, e5⟩ := HS4.out.scal_int GC.out C5.out; have z5 := HS4.out.frozen (j := m * 8 + 5) GC.out; obtain ⟨A6, n6, k6, s6⟩ := Kd.R_slice' R6.out; have e6 := HS4.out.slc GC.out (C6.out.trans (congrArg some s6)); have S6 := Aside0.mk s6; clear s6) | (go_at_call 54; refine calls_at (fun W => Sim w W (fun k => ok k ∧ base ≤ k)) ?hs_6 ?_; (case hs_6 => repeat (first | exact HS4.out | (with_reducible refine Sim.putw ?_ GC.out (by first | exact C1.out | exact C2.out | exact C3.out | exact C5.out) HG.out) | (with_reducible refine Sim.puts ?_ GC.out (by first | exact C0.out) HG.out))); intro W6 hs6; obtain ⟨l6, P6, L6⟩ := Shp.R (Shp.int .u8) hs6 R6.out; rw [S6.out] at P6; have hl6 := cntL_uint8_same L6; have hq6 := HQ6.out; refine (laws_markByteS.sim _ l6 _ W6 base _ ?pa_6 ?pb_6 P6).mono ?_; (case pa_6 => omega); (case pb_6 => omega); rintro e w6 ⟨rfl, h6⟩; have HS6 := Aside0.mk (hs6.trans (h6.mono (fun _ hk => ⟨hk.1.1, hk.2⟩))); rw [hl6, ← hq6]; clear hs6 h6 hl6 hq6 P6 L6 e5 e6 z5; obtain ⟨A7, n7, k7, s7⟩ := Kd.R_slice' R7.out; have e7 := HS6.out.slc GC.out (C7.out.trans (congrArg some s7)); have S7 := Aside0.mk s7; clear s7) | (go_at_call 136; refine calls_at (fun W => Sim w W (fun k => ok k ∧ base ≤ k)) ?hs_7 ?_; (case hs_7 => repeat (first | exact HS6.out | (with_reducible refine Sim.putw ?_ GC.out (by first | exact C1.out | exact C2.out | exact C3.out | exact C5.out) HG.out) | (with_reducible refine Sim.puts ?_ GC.out (by first | exact C0.out) HG.out))); intro W7 hs7; obtain ⟨l7, P7, L7⟩ := Shp.R shp_Reloc hs7 R7.out; rw [S7.out] at P7; have hl7 := cntL_Reloc_same L7; have hq7 := HQ7.out; refine (laws_markRelocS.sim _ l7 _ W7 base _ ?pa_7 ?pb_7 P7).mono ?_; (case pa_7 => omega); (case pb_7 => omega); rintro e w7 ⟨rfl, h7⟩; have HS7 := Aside0.mk (hs7.trans (h7.mono (fun _ hk => ⟨hk.1.1, hk.2⟩))); rw [hl7, ← hq7]; clear hs7 h7 hl7 hq7 P7 L7 e7 ))
      go_roundw
      case measure => simp [intOf]; omega
      case rel => exact ⟨m + 1, by omega, by (first | (rw [FIN.out]; done) | (rw [FIN.out]; go_num)), by go_num, ⟨HS7.out⟩⟩
    · have : m = xs.length := by omega
      subst this
      rw [List.take_length]
      go_wp2
      go_ret
      exact ⟨rfl, HS.out⟩
theorem laws_markObjectS.elem {w : World} {base g n cap : Nat} {ok : Nat → Prop} {xs : List S68} (hR : k68.R 68 w base ok (.slice (some ⟨g, 0, none⟩) n cap) xs) (m : Nat) (h1 : m < n) : ∃ (x : S68) (v0 : Value), x = xs.getD m z68 ∧ w.cell? ⟨g, m, none⟩ = some v0 ∧ k130.R 130 w base ok v0 x.f0 := by
  obtain ⟨c, hl, hM, hc, _⟩ := Kd.R_elem hR z68 (m : Int) (by omega) (by omega)
  simp only [Int.toNat_natCast] at hM hc
  obtain ⟨v0, rfl, r0⟩ := k68_openM hM
  exact ⟨_, v0, rfl, by simpa [show k68.sz = 1 from rfl] using hc 0 _ rfl, Kd.R_mono r0 (fun _ hk => hk.1)⟩
set_option maxHeartbeats 4000000 in
set_option maxRecDepth 100000 in
theorem laws_markObjectS.sim (v : Value) (xs : List S68) (a1 : Int) (w : World) (base : Nat) (ok : Nat → Prop) (h0 : 0 ≤ a1) (hb : a1 + cntL_Object xs ≤ 1000000000000) (hl0 : xs.length ≤ 1000000000000) (hR : k68.R 68 w base ok v xs) :
    Calls Try.prog 39 #[v, .int .i64 a1] w fun e w' => e = .returned (.int .i64 (a1 + cntL_Object xs)) ∧ Sim w w' (fun k => ok k ∧ base ≤ k) := by
  have HR := Aside0.mk (Kd.R_based hR)
  clear hR
  obtain ⟨A, c, rfl⟩ := Kd.R_slice HR.out
  have HB := Aside0.mk hb
  clear hb
  go_enter Try.func39, Try.ntmps39
  go_wp2
  go_loopw [1, 5] (fun v1 v5 w' => ∃ m : Nat, m ≤ xs.length ∧ v1 = .int .i64 (a1 + cntL_Object (xs.take m)) ∧ v5 = .int .i64 (m : Int) ∧ Aside0 (Sim w w' (fun k => ok k ∧ base ≤ k))) (fun _ v5 _ => xs.length - (intOf v5).toNat)
  case atStart => exact ⟨0, Nat.zero_le _, by simp [cntL_Object], rfl, ⟨Sim.refl _ _⟩⟩
  case round =>
    obtain ⟨m, hm, rfl, rfl, HS⟩ := hrel
    have hle := cntL_Object_le xs m
    by_cases hlt : m < xs.length
    · have htk := cntL_Object_take xs m hlt
      have hle1 := cntL_Object_le xs (m + 1)
      obtain ⟨g, cap, eg, _, _, gc⟩ := Kd.R_form HR.out (by omega)
      injection eg with ea _ ec
      subst ea
      subst ec
      have GS : ok g ∧ base ≤ g := HR.out.1 g rfl
      have HG := Aside0.mk GS
      clear GS
      have GC := Aside0.mk gc
      clear gc
      obtain ⟨x, v0, hx, c0, r0⟩ := laws_markObjectS.elem HR.out m hlt
      rw [← hx] at htk
      have hcx : cnt_Object x = cntL_Section x.f0 := rfl
      obtain ⟨X, hX⟩ : ∃ X : Int, X = a1 + cntL_Object (xs.take m) := ⟨_, rfl⟩
      rw [← hX]
      have hbb := HB.out
      have hX0 : 0 ≤ X := by omega
      have hX1 : X + (cntL_Section x.f0 : Nat) ≤ 1000000000000 := by omega
      obtain ⟨q0, hq0⟩ : ∃ q : Nat, q = cntL_Section x.f0 := ⟨_, rfl⟩
      rw [← hq0] at hX1 hcx
      have R0 := Aside0.mk r0
      clear r0
      have C0 := Aside0.mk c0
      clear c0
      have hfin : a1 + cntL_Object (xs.take (m + 1)) = X + (q0 : Nat) := by omega
      have FIN := Aside0.mk hfin
      have HX := Aside0.mk hX
      have HXX := Aside0.mk hx
      clear hx hcx
      have HQ0 := Aside0.mk hq0
      clear hq0
      clear hfin hX htk hle hle1 hbb
      obtain ⟨A0, n0, k0, s0⟩ := Kd.R_slice' R0.out
      have e0 := HS.out.slc GC.out (C0.out.trans (congrArg some s0))
      have S0 := Aside0.mk s0
      clear s0
      go_wp2_with (first | (go_at_call 89; refine calls_at (fun W => Sim w W (fun k => ok k ∧ base ≤ k)) ?hs_0 ?_; (case hs_0 => repeat (first | exact HS.out | (with_reducible refine Sim.putw ?_ GC.out (by first | exact C0.out | exact C0.out) HG.out))); intro W0 hs0; obtain ⟨l0, P0, L0⟩ := Shp.R shp_Section hs0 R0.out; rw [S0.out] at P0; have hl0 := cntL_Section_same L0; have hq0 := HQ0.out; refine (laws_markSectionS.sim _ l0 _ W0 base _ ?pa_0 ?pb_0 P0).mono ?_; (case pa_0 => omega); (case pb_0 => omega); rintro e w0 ⟨rfl, h0⟩; have HS0 := Aside0.mk (hs0.trans (h0.mono (fun _ hk => ⟨hk.1.1, hk.2⟩))); rw [hl0, ← hq0]; clear hs0 h0 hl0 hq0 P0 L0))
      go_roundw
      case measure => simp [intOf]; omega
      case rel => exact ⟨m + 1, by omega, by (first | (rw [FIN.out]; done) | (rw [FIN.out]; go_num)), by go_num, ⟨HS0.out⟩⟩
    · have : m = xs.length := by omega
      subst this
      rw [List.take_length]
      go_wp2
      go_ret
      exact ⟨rfl, HS.out⟩
end Go.Proofs.Ythegbhfoleiegaa.All

namespace Go.Proofs.Ythegbhfoleiegaa.All
open Go.RowKit Go.Proofs.YthegbhfoleiegaaW.PrintWords Go.Proofs.YthegbhfoleiegaaW.PrintLast Go.Proofs.YthegbhfoleiegaaW.PrintMore
attribute [local go_sem] max2_int min2_int max_two min_two max_three min_three max_four min_four   -- for this text's walks alone
set_option linter.unusedVariables false
set_option linter.unusedSimpArgs false

def laws_markObjectS.f (l0 : List (S68)) (a1 : Int) : Option Int := if 0 ≤ a1 then (if a1 + cntL_Object l0 + l0.length ≤ 1000000000000 then some (a1 + cntL_Object l0) else none) else none
theorem laws_markObjectS.calls (P0_ : Nat → Prop) (u9000_ : Value) (l0 : List (S68)) (a1 : Int) (r : Int) (w0 w : World) (hB : Below w0.heap.size w0 w) (ho0 : Kd.R k68 68 w w0.heap.size P0_ u9000_ l0) (h : laws_markObjectS.f l0 a1 = some r) :
 Calls Try.prog 39 #[u9000_, .int .i64 a1] w fun e w' => e = .returned (.int .i64 r) ∧ Below w0.heap.size w0 w' ∧ Kept w w' (fun k_ => P0_ k_) := by
 unfold laws_markObjectS.f at h
 by_cases h0 : 0 ≤ a1
 · rw [if_pos h0] at h
   by_cases h1 : a1 + cntL_Object l0 + l0.length ≤ 1000000000000
   · rw [if_pos h1] at h
     obtain rfl := Option.some.inj h
     exact (laws_markObjectS.sim u9000_ l0 a1 w w0.heap.size P0_ h0 (by omega) (by omega) ho0).mono fun e w' ⟨he, hs⟩ => ⟨he, hs.below0 hB (fun k hk => hk.2), (hs.mono (fun k hk => hk.1)).kept⟩
   · rw [if_neg h1] at h; cases h
 · rw [if_neg h0] at h; cases h

end Go.Proofs.Ythegbhfoleiegaa.All

