/- Part 4 of the proof of FnExactPrevBlocks: functions of the translation with what they return, and plain laws of these. Written by programs of this session over the kit's print, and by hand. -/
import Derived.Test.YtoedcnhgobbnfaaProg
import Derived.Test.YtoedcnhgobbnfaaWApart
import Derived.Test.YtoedcnhgobbnfaaWArr
import Derived.Test.YtoedcnhgobbnfaaWFoot
import Derived.Test.YtoedcnhgobbnfaaWGuard
import Derived.Test.YtoedcnhgobbnfaaWKept
import Derived.Test.YtoedcnhgobbnfaaWLast
import Derived.Test.YtoedcnhgobbnfaaWMore
import Derived.Test.YtoedcnhgobbnfaaWN
import Derived.Test.YtoedcnhgobbnfaaWNEv
import Derived.Test.YtoedcnhgobbnfaaWQPut
import Derived.Test.YtoedcnhgobbnfaaWRepsOne
import Derived.Test.YtoedcnhgobbnfaaWShare
import Derived.Test.YtoedcnhgobbnfaaWTab
import Derived.Test.YtoedcnhgobbnfaaWWords
import Derived.Test.YtoedcnhgobbnfaaWZeros
import Derived.Below
import Derived.Deep.Draws
import Derived.Deep.AppendLies
import Derived.Maps.AppendAt
import Derived.OwnWalk
import Derived.Laws.BytesArg
import Derived.Laws.MakeOwn
import Derived.Laws.OwnMore
import Derived.Deep.OwnRows
import Derived.Tactics
import Derived.Lib.ConvBytes
import Derived.Laws.Slices
import Derived.WalkKit
import Derived.KernelRfl
import Derived.RowKit3
import Derived.Deep.LoopGhost
import Derived.Deep.QuietTactic
import Derived.BigQuiet
import Derived.WideLaws
import Derived.Deep.DeepCutAuto
import Derived.Deep.CutBlock
import Derived.Deep.RegionHeld3
import Derived.Laws.Rows
import Derived.Lib.AppendStr
import Derived.ArgAppend
import Derived.Laws.IdiomCopy
import Derived.OrdersHeld
import Derived.Laws.BitsLemmas
import Derived.RowKit
import Derived.Maps.OwnSet
import Derived.Maps.OwnOps
import Derived.Deep.Slices
import Derived.ChangeArms
import Derived.ProofKit
import Derived.OpenShut
import Derived.ShutString
import Derived.ChangeOld
import Derived.SizedLaws
import Derived.Test.YtoedcnhgobbnfaaCFnExactPrevBlocks1
import Derived.Test.YtoedcnhgobbnfaaCFnExactPrevBlocks2
import Derived.Test.YtoedcnhgobbnfaaCFnExactPrevBlocks3
namespace Go.Proofs.Ytoedcnhgobbnfaa.All
open Go.RowKit Go.Proofs.YtoedcnhgobbnfaaW.PrintWords Go.Proofs.YtoedcnhgobbnfaaW.PrintLast Go.Proofs.YtoedcnhgobbnfaaW.PrintMore
attribute [local go_sem] max2_int min2_int max_two min_two max_three min_three max_four min_four   -- for this text's walks alone
set_option linter.unusedVariables false
set_option linter.unusedSimpArgs false

/-! ### laws_FnExactPrevBlocks: function 5 -/
def laws_FnExactPrevBlocks.j0 : Nat → Int → List Int → List Int → Bool → ByteArray → Int → List Int → Int → List (S96) → Option (Bool)
  | 0, _, _, _, _, _, _, _, _, _ => none
  | k + 1, x1, x6, x8, x46, x1122000, x1122001, x1122002, x1122003, x1122004 => if x46 = true then (some false) else ((laws_markInt64S.f k x8 1).bind fun bt1161 => ((laws_heldInt64S.f k bt1161.2 1).bind fun t1163 => (if t1163 < 0 then (some false) else (if t1163 = bt1161.1 then ((laws_toFunc.f k x1122000 x1122001 x1122002 x1122003 x1122004).bind fun bt1164 => ((impl_PrevBlocks.f k bt1164.1 bt1164.2.1 bt1164.2.2.1 bt1164.2.2.2.1 bt1164.2.2.2.2 x1).bind fun t1173 => ((laws_eqInt64S.f k t1173 x6).bind fun t1176 => (if t1176 = true then ((laws_heldInt64S.f k bt1161.2 1).bind fun t1177 => (if t1177 < 0 then (some false) else (if t1177 = bt1161.1 then (some true) else (some false)))) else (some false))))) else (some false)))))
def laws_FnExactPrevBlocks.f (k : Nat) (a0_0 : ByteArray) (a0_1 : Int) (l0_2 : List Int) (a0_3 : Int) (l0_4 : List (S96)) (a1 : Int) : Option (Bool) := (laws_szFunc.f k a0_0 a0_1 l0_2 a0_3 l0_4 1048576).bind fun t1122 => (if t1122 < 0 then (some true) else ((laws_toFunc.f k a0_0 a0_1 l0_2 a0_3 l0_4).bind fun bt1123 => ((spec_PrevBlocks.f k bt1123.1 bt1123.2.1 bt1123.2.2.1 bt1123.2.2.2.1 bt1123.2.2.2.2 a1).bind fun t1132 => ((laws_toFunc.f k a0_0 a0_1 l0_2 a0_3 l0_4).bind fun bt1135 => ((impl_PrevBlocks.f k bt1135.1 bt1135.2.1 bt1135.2.2.1 bt1135.2.2.2.1 bt1135.2.2.2.2 a1).bind fun t1145 => ((laws_eqInt64S.f k t1145 t1132).bind fun t1148 => (if t1148 = true then ((laws_toFunc.f k a0_0 a0_1 l0_2 a0_3 l0_4).bind fun bt1149 => ((laws_eqFunc.f k bt1135.1 bt1135.2.1 bt1135.2.2.1 bt1135.2.2.2.1 bt1135.2.2.2.2 bt1149.1 bt1149.2.1 bt1149.2.2.1 bt1149.2.2.2.1 bt1149.2.2.2.2).bind fun t1158 => (if t1158 = true then ((laws_markFunc.f bt1135.1 bt1135.2.1 bt1135.2.2.1 bt1135.2.2.2.1 bt1135.2.2.2.2 1).bind fun t1159 => (if t1159 < 0 then (laws_FnExactPrevBlocks.j0 k a1 t1132 t1145 true a0_0 a0_1 l0_2 a0_3 l0_4) else ((laws_eqInt64S.f k t1145 t1132).bind fun t1160 => (laws_FnExactPrevBlocks.j0 k a1 t1132 t1145 (!t1160) a0_0 a0_1 l0_2 a0_3 l0_4)))) else (some false)))) else (some false))))))))
set_option maxHeartbeats 8000000 in
set_option maxRecDepth 100000 in
theorem laws_FnExactPrevBlocks.calls (k : Nat) (a0_0 : ByteArray) (a0_1 : Int) (A0_2 : Option Addr) (c0_2 : Nat) (l0_2 : List Int) (a0_3 : Int) (A0_4 : Option Addr) (c0_4 : Nat) (l0_4 : List (S96)) (a1 : Int) (r : Bool) (w : World) (hr0_2 : Kd.C (Kd.int .i64) w A0_2 l0_2.length l0_2) (hc0_2 : l0_2.length ≤ c0_2) (hr0_4 : Kd.C k96 w A0_4 l0_4.length l0_4) (hc0_4 : l0_4.length ≤ c0_4) (h : laws_FnExactPrevBlocks.f k a0_0 a0_1 l0_2 a0_3 l0_4 a1 = some r) :
    Calls Try.prog 5 #[.agg #[.string a0_0, .int .i64 a0_1, .slice A0_2 l0_2.length c0_2, .int .i64 a0_3, .slice A0_4 l0_4.length c0_4], .int .i64 a1] w fun e w' => e = .returned (.bool r) ∧ Below w.heap.size w w' := by
  have hu25 := Try.underlying25
  have hu30 := Try.underlying30
  have HR0_2 := Aside0.mk hr0_2
  have HC0_2 := Aside0.mk hc0_2
  clear hr0_2 hc0_2
  have HR0_4 := Aside0.mk hr0_4
  have HC0_4 := Aside0.mk hc0_4
  clear hr0_4 hc0_4
  have HB := Aside0.mk (Below.refl w.heap.size w)
  have H : ((laws_szFunc.f k a0_0 a0_1 l0_2 a0_3 l0_4 1048576).bind fun t1122 => (if t1122 < 0 then (some true) else ((laws_toFunc.f k a0_0 a0_1 l0_2 a0_3 l0_4).bind fun bt1123 => ((spec_PrevBlocks.f k bt1123.1 bt1123.2.1 bt1123.2.2.1 bt1123.2.2.2.1 bt1123.2.2.2.2 a1).bind fun t1132 => ((laws_toFunc.f k a0_0 a0_1 l0_2 a0_3 l0_4).bind fun bt1135 => ((impl_PrevBlocks.f k bt1135.1 bt1135.2.1 bt1135.2.2.1 bt1135.2.2.2.1 bt1135.2.2.2.2 a1).bind fun t1145 => ((laws_eqInt64S.f k t1145 t1132).bind fun t1148 => (if t1148 = true then ((laws_toFunc.f k a0_0 a0_1 l0_2 a0_3 l0_4).bind fun bt1149 => ((laws_eqFunc.f k bt1135.1 bt1135.2.1 bt1135.2.2.1 bt1135.2.2.2.1 bt1135.2.2.2.2 bt1149.1 bt1149.2.1 bt1149.2.2.1 bt1149.2.2.2.1 bt1149.2.2.2.2).bind fun t1158 => (if t1158 = true then ((laws_markFunc.f bt1135.1 bt1135.2.1 bt1135.2.2.1 bt1135.2.2.2.1 bt1135.2.2.2.2 1).bind fun t1159 => (if t1159 < 0 then (laws_FnExactPrevBlocks.j0 k a1 t1132 t1145 true a0_0 a0_1 l0_2 a0_3 l0_4) else ((laws_eqInt64S.f k t1145 t1132).bind fun t1160 => (laws_FnExactPrevBlocks.j0 k a1 t1132 t1145 (!t1160) a0_0 a0_1 l0_2 a0_3 l0_4)))) else (some false)))) else (some false))))))))) = some r := h
  clear h
  replace H := Option.bind_eq_some_iff.mp H
  obtain ⟨t1122, A30, H⟩ := H
  replace H : (if t1122 < 0 then (some true) else ((laws_toFunc.f k a0_0 a0_1 l0_2 a0_3 l0_4).bind fun bt1123 => ((spec_PrevBlocks.f k bt1123.1 bt1123.2.1 bt1123.2.2.1 bt1123.2.2.2.1 bt1123.2.2.2.2 a1).bind fun t1132 => ((laws_toFunc.f k a0_0 a0_1 l0_2 a0_3 l0_4).bind fun bt1135 => ((impl_PrevBlocks.f k bt1135.1 bt1135.2.1 bt1135.2.2.1 bt1135.2.2.2.1 bt1135.2.2.2.2 a1).bind fun t1145 => ((laws_eqInt64S.f k t1145 t1132).bind fun t1148 => (if t1148 = true then ((laws_toFunc.f k a0_0 a0_1 l0_2 a0_3 l0_4).bind fun bt1149 => ((laws_eqFunc.f k bt1135.1 bt1135.2.1 bt1135.2.2.1 bt1135.2.2.2.1 bt1135.2.2.2.2 bt1149.1 bt1149.2.1 bt1149.2.2.1 bt1149.2.2.2.1 bt1149.2.2.2.2).bind fun t1158 => (if t1158 = true then ((laws_markFunc.f bt1135.1 bt1135.2.1 bt1135.2.2.1 bt1135.2.2.2.1 bt1135.2.2.2.2 1).bind fun t1159 => (if t1159 < 0 then (laws_FnExactPrevBlocks.j0 k a1 t1132 t1145 true a0_0 a0_1 l0_2 a0_3 l0_4) else ((laws_eqInt64S.f k t1145 t1132).bind fun t1160 => (laws_FnExactPrevBlocks.j0 k a1 t1132 t1145 (!t1160) a0_0 a0_1 l0_2 a0_3 l0_4)))) else (some false)))) else (some false)))))))) = some r := H
  have A3 := Aside0.mk A30
  clear A30
  by_cases c4 : t1122 < 0
  · rw [if_pos c4] at H
    have c4b0 : decide (t1122 < 0) = true := decide_eq_true c4
    clear c4
    obtain rfl := Option.some.inj H
    go_enter Try.func5, Try.ntmps5
    go_wp2_with (first | ((with_reducible refine gate_dst (N := 2) rfl ?_); refine box_event ?hg (N := 2) ?hd (cs := #[.string a0_0, .int .i64 a0_1, .slice A0_2 l0_2.length c0_2, .int .i64 a0_3, .slice A0_4 l0_4.length c0_4]) (t := 25) ?hr ?_; (case hd => rfl); (case hg => rfl); (case hr => first | (go_simp; done) | (go_simp; rfl)); intro gb1121 hg w5 hbox hb; have n0_ := Aside0.mk (below_step (by repeat (first | (with_reducible first | exact HB.out | apply below_alloc | apply pw_below_drewN | apply below_drew1) | exact HB.out)) hb); have n1_ := Aside0.mk (hbox); have n2_ := Aside0.mk ((by rw [hg]; exact (below_size (by repeat (first | (with_reducible first | exact HB.out | apply below_alloc | apply pw_below_drewN | apply below_drew1) | exact HB.out))) : w.heap.size ≤ gb1121)); have n3_ := Aside0.mk ((by rw [hg]; exact (below_size (by repeat (first | (with_reducible first | exact HB.out | apply below_alloc | apply pw_below_drewN | apply below_drew1) | exact HB.out))) : w.heap.size ≤ gb1121)); clear HB; have HB := n0_; have BK1121 := n1_; have GW1121 := n2_; have GE1121 := n3_; clear n0_ n1_ n2_ n3_; clear hb hbox hg; have hcz6_0 : w5.cell? ⟨gb1121, 0, none⟩ = some (.string a0_0) := (blk_cell BK1121.out 0).trans rfl; have hcz6_1 : w5.cell? ⟨gb1121, 1, none⟩ = some (.int .i64 a0_1) := (blk_cell BK1121.out 1).trans rfl; have hcz6_2 : w5.cell? ⟨gb1121, 2, none⟩ = some (.slice A0_2 l0_2.length c0_2) := (blk_cell BK1121.out 2).trans rfl; have hcz6_3 : w5.cell? ⟨gb1121, 3, none⟩ = some (.int .i64 a0_3) := (blk_cell BK1121.out 3).trans rfl; have hcz6_4 : w5.cell? ⟨gb1121, 4, none⟩ = some (.slice A0_4 l0_4.length c0_4) := (blk_cell BK1121.out 4).trans rfl; have hfz6_0 := blk_frozen BK1121.out 0; have hfz6_1 := blk_frozen BK1121.out 1; have hfz6_2 := blk_frozen BK1121.out 2; have hfz6_3 := blk_frozen BK1121.out 3; have hfz6_4 := blk_frozen BK1121.out 4) | ((with_reducible refine gate_callee (f := 12) rfl ?_); refine goesL_ (some 15) rfl rfl Try.func12 (by kernel_rfl) rfl #[.agg #[.string a0_0, .int .i64 a0_1, .slice A0_2 l0_2.length c0_2, .int .i64 a0_3, .slice A0_4 l0_4.length c0_4], .int .i64 1048576] rfl (by (try simp only [List.map_toArray, List.map_cons, List.map_nil]); first | done | rfl | (simp only [List.length_drop, List.length_take]; rfl)) ?_; (with_reducible refine (laws_szFunc.calls k a0_0 a0_1 _ _ l0_2 a0_3 _ _ l0_4 1048576 t1122 _ ?side1 ?side2 ?side3 ?side4 A3.out).mono ?_); (case side1 => repeat (first | exact (Kd.C_below HR0_2.out HB.out) | (with_reducible refine Kd.C_alloc ?_ _) | (with_reducible refine Kd.C_drewN ?_ _) | (with_reducible refine Kd.C_drew ?_))); (case side2 => exact HC0_2.out); (case side3 => repeat (first | exact (Kd.C_below HR0_4.out HB.out) | (with_reducible refine Kd.C_alloc ?_ _) | (with_reducible refine Kd.C_drewN ?_ _) | (with_reducible refine Kd.C_drew ?_))); (case side4 => exact HC0_4.out); rintro e w7 ⟨rfl, hb⟩; refine ⟨_, rfl, ?_⟩; have n0_ := Aside0.mk (blk_below (g := gb1121) (o := .cells #[.string a0_0, .int .i64 a0_1, .slice A0_2 l0_2.length c0_2, .int .i64 a0_3, .slice A0_4 l0_4.length c0_4] 25 (0, 0)) (by (with_reducible repeat (first | refine blk_drewN ?_ _ | refine blk_drew ?_ | refine blk_alloc ?_ _)); exact BK1121.out) hb); have n1_ := Aside0.mk (below_step (by repeat (first | (with_reducible first | exact HB.out | apply below_alloc | apply pw_below_drewN | apply below_drew1 | refine below_set ?_ GE1121.out) | exact HB.out)) hb); clear BK1121; clear HB; have BK1121 := n0_; have HB := n1_; clear n0_ n1_; (try clear hb); (try clear hb2); (try clear hk); (try clear hi)))
    go_ret
    exact ⟨by first | rfl | (simp [errW_none, errW_some] <;> rfl) | (simp [*, errW_none, errW_some] <;> rfl), by repeat (first | (with_reducible first | exact HB.out | apply below_alloc | apply pw_below_drewN | apply below_drew1 | refine below_set ?_ GE1121.out) | exact HB.out)⟩
  · rw [if_neg c4] at H
    have c4b0 : decide (t1122 < 0) = false := decide_eq_false c4
    clear c4
    replace H := Option.bind_eq_some_iff.mp H
    obtain ⟨⟨t1123, t1124, t1125, t1128, t1129⟩, A80, H⟩ := H
    replace H : ((spec_PrevBlocks.f k t1123 t1124 t1125 t1128 t1129 a1).bind fun t1132 => ((laws_toFunc.f k a0_0 a0_1 l0_2 a0_3 l0_4).bind fun bt1135 => ((impl_PrevBlocks.f k bt1135.1 bt1135.2.1 bt1135.2.2.1 bt1135.2.2.2.1 bt1135.2.2.2.2 a1).bind fun t1145 => ((laws_eqInt64S.f k t1145 t1132).bind fun t1148 => (if t1148 = true then ((laws_toFunc.f k a0_0 a0_1 l0_2 a0_3 l0_4).bind fun bt1149 => ((laws_eqFunc.f k bt1135.1 bt1135.2.1 bt1135.2.2.1 bt1135.2.2.2.1 bt1135.2.2.2.2 bt1149.1 bt1149.2.1 bt1149.2.2.1 bt1149.2.2.2.1 bt1149.2.2.2.2).bind fun t1158 => (if t1158 = true then ((laws_markFunc.f bt1135.1 bt1135.2.1 bt1135.2.2.1 bt1135.2.2.2.1 bt1135.2.2.2.2 1).bind fun t1159 => (if t1159 < 0 then (laws_FnExactPrevBlocks.j0 k a1 t1132 t1145 true a0_0 a0_1 l0_2 a0_3 l0_4) else ((laws_eqInt64S.f k t1145 t1132).bind fun t1160 => (laws_FnExactPrevBlocks.j0 k a1 t1132 t1145 (!t1160) a0_0 a0_1 l0_2 a0_3 l0_4)))) else (some false)))) else (some false)))))) = some r := H
    have A8 := Aside0.mk A80
    clear A80
    replace H := Option.bind_eq_some_iff.mp H
    obtain ⟨t1132, A90, H⟩ := H
    replace H : ((laws_toFunc.f k a0_0 a0_1 l0_2 a0_3 l0_4).bind fun bt1135 => ((impl_PrevBlocks.f k bt1135.1 bt1135.2.1 bt1135.2.2.1 bt1135.2.2.2.1 bt1135.2.2.2.2 a1).bind fun t1145 => ((laws_eqInt64S.f k t1145 t1132).bind fun t1148 => (if t1148 = true then ((laws_toFunc.f k a0_0 a0_1 l0_2 a0_3 l0_4).bind fun bt1149 => ((laws_eqFunc.f k bt1135.1 bt1135.2.1 bt1135.2.2.1 bt1135.2.2.2.1 bt1135.2.2.2.2 bt1149.1 bt1149.2.1 bt1149.2.2.1 bt1149.2.2.2.1 bt1149.2.2.2.2).bind fun t1158 => (if t1158 = true then ((laws_markFunc.f bt1135.1 bt1135.2.1 bt1135.2.2.1 bt1135.2.2.2.1 bt1135.2.2.2.2 1).bind fun t1159 => (if t1159 < 0 then (laws_FnExactPrevBlocks.j0 k a1 t1132 t1145 true a0_0 a0_1 l0_2 a0_3 l0_4) else ((laws_eqInt64S.f k t1145 t1132).bind fun t1160 => (laws_FnExactPrevBlocks.j0 k a1 t1132 t1145 (!t1160) a0_0 a0_1 l0_2 a0_3 l0_4)))) else (some false)))) else (some false))))) = some r := H
    have A9 := Aside0.mk A90
    clear A90
    replace H := Option.bind_eq_some_iff.mp H
    obtain ⟨⟨t1135, t1136, t1137, t1140, t1141⟩, A100, H⟩ := H
    replace H : ((impl_PrevBlocks.f k t1135 t1136 t1137 t1140 t1141 a1).bind fun t1145 => ((laws_eqInt64S.f k t1145 t1132).bind fun t1148 => (if t1148 = true then ((laws_toFunc.f k a0_0 a0_1 l0_2 a0_3 l0_4).bind fun bt1149 => ((laws_eqFunc.f k t1135 t1136 t1137 t1140 t1141 bt1149.1 bt1149.2.1 bt1149.2.2.1 bt1149.2.2.2.1 bt1149.2.2.2.2).bind fun t1158 => (if t1158 = true then ((laws_markFunc.f t1135 t1136 t1137 t1140 t1141 1).bind fun t1159 => (if t1159 < 0 then (laws_FnExactPrevBlocks.j0 k a1 t1132 t1145 true a0_0 a0_1 l0_2 a0_3 l0_4) else ((laws_eqInt64S.f k t1145 t1132).bind fun t1160 => (laws_FnExactPrevBlocks.j0 k a1 t1132 t1145 (!t1160) a0_0 a0_1 l0_2 a0_3 l0_4)))) else (some false)))) else (some false)))) = some r := H
    have A10 := Aside0.mk A100
    clear A100
    replace H := Option.bind_eq_some_iff.mp H
    obtain ⟨t1145, A110, H⟩ := H
    replace H : ((laws_eqInt64S.f k t1145 t1132).bind fun t1148 => (if t1148 = true then ((laws_toFunc.f k a0_0 a0_1 l0_2 a0_3 l0_4).bind fun bt1149 => ((laws_eqFunc.f k t1135 t1136 t1137 t1140 t1141 bt1149.1 bt1149.2.1 bt1149.2.2.1 bt1149.2.2.2.1 bt1149.2.2.2.2).bind fun t1158 => (if t1158 = true then ((laws_markFunc.f t1135 t1136 t1137 t1140 t1141 1).bind fun t1159 => (if t1159 < 0 then (laws_FnExactPrevBlocks.j0 k a1 t1132 t1145 true a0_0 a0_1 l0_2 a0_3 l0_4) else ((laws_eqInt64S.f k t1145 t1132).bind fun t1160 => (laws_FnExactPrevBlocks.j0 k a1 t1132 t1145 (!t1160) a0_0 a0_1 l0_2 a0_3 l0_4)))) else (some false)))) else (some false))) = some r := H
    have A11 := Aside0.mk A110
    clear A110
    replace H := Option.bind_eq_some_iff.mp H
    obtain ⟨t1148, A120, H⟩ := H
    replace H : (if t1148 = true then ((laws_toFunc.f k a0_0 a0_1 l0_2 a0_3 l0_4).bind fun bt1149 => ((laws_eqFunc.f k t1135 t1136 t1137 t1140 t1141 bt1149.1 bt1149.2.1 bt1149.2.2.1 bt1149.2.2.2.1 bt1149.2.2.2.2).bind fun t1158 => (if t1158 = true then ((laws_markFunc.f t1135 t1136 t1137 t1140 t1141 1).bind fun t1159 => (if t1159 < 0 then (laws_FnExactPrevBlocks.j0 k a1 t1132 t1145 true a0_0 a0_1 l0_2 a0_3 l0_4) else ((laws_eqInt64S.f k t1145 t1132).bind fun t1160 => (laws_FnExactPrevBlocks.j0 k a1 t1132 t1145 (!t1160) a0_0 a0_1 l0_2 a0_3 l0_4)))) else (some false)))) else (some false)) = some r := H
    have A12 := Aside0.mk A120
    clear A120
    by_cases c13 : t1148 = true
    · subst c13
      have H1 : ((laws_toFunc.f k a0_0 a0_1 l0_2 a0_3 l0_4).bind fun bt1149 => ((laws_eqFunc.f k t1135 t1136 t1137 t1140 t1141 bt1149.1 bt1149.2.1 bt1149.2.2.1 bt1149.2.2.2.1 bt1149.2.2.2.2).bind fun t1158 => (if t1158 = true then ((laws_markFunc.f t1135 t1136 t1137 t1140 t1141 1).bind fun t1159 => (if t1159 < 0 then (laws_FnExactPrevBlocks.j0 k a1 t1132 t1145 true a0_0 a0_1 l0_2 a0_3 l0_4) else ((laws_eqInt64S.f k t1145 t1132).bind fun t1160 => (laws_FnExactPrevBlocks.j0 k a1 t1132 t1145 (!t1160) a0_0 a0_1 l0_2 a0_3 l0_4)))) else (some false)))) = some r := by rw [if_pos rfl] at H; exact H
      clear H
      have H := H1
      clear H1
      replace H := Option.bind_eq_some_iff.mp H
      obtain ⟨⟨t1149, t1150, t1151, t1154, t1155⟩, A140, H⟩ := H
      replace H : ((laws_eqFunc.f k t1135 t1136 t1137 t1140 t1141 t1149 t1150 t1151 t1154 t1155).bind fun t1158 => (if t1158 = true then ((laws_markFunc.f t1135 t1136 t1137 t1140 t1141 1).bind fun t1159 => (if t1159 < 0 then (laws_FnExactPrevBlocks.j0 k a1 t1132 t1145 true a0_0 a0_1 l0_2 a0_3 l0_4) else ((laws_eqInt64S.f k t1145 t1132).bind fun t1160 => (laws_FnExactPrevBlocks.j0 k a1 t1132 t1145 (!t1160) a0_0 a0_1 l0_2 a0_3 l0_4)))) else (some false))) = some r := H
      have A14 := Aside0.mk A140
      clear A140
      replace H := Option.bind_eq_some_iff.mp H
      obtain ⟨t1158, A150, H⟩ := H
      replace H : (if t1158 = true then ((laws_markFunc.f t1135 t1136 t1137 t1140 t1141 1).bind fun t1159 => (if t1159 < 0 then (laws_FnExactPrevBlocks.j0 k a1 t1132 t1145 true a0_0 a0_1 l0_2 a0_3 l0_4) else ((laws_eqInt64S.f k t1145 t1132).bind fun t1160 => (laws_FnExactPrevBlocks.j0 k a1 t1132 t1145 (!t1160) a0_0 a0_1 l0_2 a0_3 l0_4)))) else (some false)) = some r := H
      have A15 := Aside0.mk A150
      clear A150
      by_cases c16 : t1158 = true
      · subst c16
        have H1 : ((laws_markFunc.f t1135 t1136 t1137 t1140 t1141 1).bind fun t1159 => (if t1159 < 0 then (laws_FnExactPrevBlocks.j0 k a1 t1132 t1145 true a0_0 a0_1 l0_2 a0_3 l0_4) else ((laws_eqInt64S.f k t1145 t1132).bind fun t1160 => (laws_FnExactPrevBlocks.j0 k a1 t1132 t1145 (!t1160) a0_0 a0_1 l0_2 a0_3 l0_4)))) = some r := by rw [if_pos rfl] at H; exact H
        clear H
        have H := H1
        clear H1
        replace H := Option.bind_eq_some_iff.mp H
        obtain ⟨t1159, A170, H⟩ := H
        replace H : (if t1159 < 0 then (laws_FnExactPrevBlocks.j0 k a1 t1132 t1145 true a0_0 a0_1 l0_2 a0_3 l0_4) else ((laws_eqInt64S.f k t1145 t1132).bind fun t1160 => (laws_FnExactPrevBlocks.j0 k a1 t1132 t1145 (!t1160) a0_0 a0_1 l0_2 a0_3 l0_4))) = some r := H
        have A17 := Aside0.mk A170
        clear A170
        have HC18 := Aside0.mk H
        clear H
        go_enter Try.func5, Try.ntmps5
        try go_wp2_with (first | ((with_reducible refine gate_dst (N := 2) rfl ?_); refine box_event ?hg (N := 2) ?hd (cs := #[.string a0_0, .int .i64 a0_1, .slice A0_2 l0_2.length c0_2, .int .i64 a0_3, .slice A0_4 l0_4.length c0_4]) (t := 25) ?hr ?_; (case hd => rfl); (case hg => rfl); (case hr => first | (go_simp; done) | (go_simp; rfl)); intro gb1121 hg w19 hbox hb; have n0_ := Aside0.mk (below_step (by repeat (first | (with_reducible first | exact HB.out | apply below_alloc | apply pw_below_drewN | apply below_drew1) | exact HB.out)) hb); have n1_ := Aside0.mk (hbox); have n2_ := Aside0.mk ((by rw [hg]; exact (below_size (by repeat (first | (with_reducible first | exact HB.out | apply below_alloc | apply pw_below_drewN | apply below_drew1) | exact HB.out))) : w.heap.size ≤ gb1121)); have n3_ := Aside0.mk ((by rw [hg]; exact (below_size (by repeat (first | (with_reducible first | exact HB.out | apply below_alloc | apply pw_below_drewN | apply below_drew1) | exact HB.out))) : w.heap.size ≤ gb1121)); clear HB; have HB := n0_; have BK1121 := n1_; have GW1121 := n2_; have GE1121 := n3_; clear n0_ n1_ n2_ n3_; clear hb hbox hg; have hcz20_0 : w19.cell? ⟨gb1121, 0, none⟩ = some (.string a0_0) := (blk_cell BK1121.out 0).trans rfl; have hcz20_1 : w19.cell? ⟨gb1121, 1, none⟩ = some (.int .i64 a0_1) := (blk_cell BK1121.out 1).trans rfl; have hcz20_2 : w19.cell? ⟨gb1121, 2, none⟩ = some (.slice A0_2 l0_2.length c0_2) := (blk_cell BK1121.out 2).trans rfl; have hcz20_3 : w19.cell? ⟨gb1121, 3, none⟩ = some (.int .i64 a0_3) := (blk_cell BK1121.out 3).trans rfl; have hcz20_4 : w19.cell? ⟨gb1121, 4, none⟩ = some (.slice A0_4 l0_4.length c0_4) := (blk_cell BK1121.out 4).trans rfl; have hfz20_0 := blk_frozen BK1121.out 0; have hfz20_1 := blk_frozen BK1121.out 1; have hfz20_2 := blk_frozen BK1121.out 2; have hfz20_3 := blk_frozen BK1121.out 3; have hfz20_4 := blk_frozen BK1121.out 4) | ((with_reducible refine gate_callee (f := 12) rfl ?_); refine goesL_ (some 15) rfl rfl Try.func12 (by kernel_rfl) rfl #[.agg #[.string a0_0, .int .i64 a0_1, .slice A0_2 l0_2.length c0_2, .int .i64 a0_3, .slice A0_4 l0_4.length c0_4], .int .i64 1048576] rfl (by (try simp only [List.map_toArray, List.map_cons, List.map_nil]); first | done | rfl | (simp only [List.length_drop, List.length_take]; rfl)) ?_; (with_reducible refine (laws_szFunc.calls k a0_0 a0_1 _ _ l0_2 a0_3 _ _ l0_4 1048576 t1122 _ ?side1 ?side2 ?side3 ?side4 A3.out).mono ?_); (case side1 => repeat (first | exact (Kd.C_below HR0_2.out HB.out) | (with_reducible refine Kd.C_alloc ?_ _) | (with_reducible refine Kd.C_drewN ?_ _) | (with_reducible refine Kd.C_drew ?_))); (case side2 => exact HC0_2.out); (case side3 => repeat (first | exact (Kd.C_below HR0_4.out HB.out) | (with_reducible refine Kd.C_alloc ?_ _) | (with_reducible refine Kd.C_drewN ?_ _) | (with_reducible refine Kd.C_drew ?_))); (case side4 => exact HC0_4.out); rintro e w21 ⟨rfl, hb⟩; refine ⟨_, rfl, ?_⟩; have n0_ := Aside0.mk (blk_below (g := gb1121) (o := .cells #[.string a0_0, .int .i64 a0_1, .slice A0_2 l0_2.length c0_2, .int .i64 a0_3, .slice A0_4 l0_4.length c0_4] 25 (0, 0)) (by (with_reducible repeat (first | refine blk_drewN ?_ _ | refine blk_drew ?_ | refine blk_alloc ?_ _)); exact BK1121.out) hb); have n1_ := Aside0.mk (below_step (by repeat (first | (with_reducible first | exact HB.out | apply below_alloc | apply pw_below_drewN | apply below_drew1 | refine below_set ?_ GE1121.out) | exact HB.out)) hb); clear BK1121; clear HB; have BK1121 := n0_; have HB := n1_; clear n0_ n1_; (try clear hb); (try clear hb2); (try clear hk); (try clear hi); have hcz22_0 : w21.cell? ⟨gb1121, 0, none⟩ = some (.string a0_0) := (blk_cell BK1121.out 0).trans rfl; have hcz22_1 : w21.cell? ⟨gb1121, 1, none⟩ = some (.int .i64 a0_1) := (blk_cell BK1121.out 1).trans rfl; have hcz22_2 : w21.cell? ⟨gb1121, 2, none⟩ = some (.slice A0_2 l0_2.length c0_2) := (blk_cell BK1121.out 2).trans rfl; have hcz22_3 : w21.cell? ⟨gb1121, 3, none⟩ = some (.int .i64 a0_3) := (blk_cell BK1121.out 3).trans rfl; have hcz22_4 : w21.cell? ⟨gb1121, 4, none⟩ = some (.slice A0_4 l0_4.length c0_4) := (blk_cell BK1121.out 4).trans rfl; have hfz22_0 := blk_frozen BK1121.out 0; have hfz22_1 := blk_frozen BK1121.out 1; have hfz22_2 := blk_frozen BK1121.out 2; have hfz22_3 := blk_frozen BK1121.out 3; have hfz22_4 := blk_frozen BK1121.out 4) | ((with_reducible refine gate_callee (f := 14) rfl ?_); refine goesL_ (some 19) rfl rfl Try.func14 (by kernel_rfl) rfl #[.agg #[.string a0_0, .int .i64 a0_1, .slice A0_2 l0_2.length c0_2, .int .i64 a0_3, .slice A0_4 l0_4.length c0_4]] rfl (by (try simp only [List.map_toArray, List.map_cons, List.map_nil]); first | done | rfl | (simp only [List.length_drop, List.length_take]; rfl)) ?_; (with_reducible refine (laws_toFunc.calls k a0_0 a0_1 _ _ l0_2 a0_3 _ _ l0_4 t1123 t1124 t1125 t1128 t1129 _ ?side1 ?side2 ?side3 ?side4 A8.out).mono ?_); (case side1 => repeat (first | exact (Kd.C_below HR0_2.out HB.out) | (with_reducible refine Kd.C_alloc ?_ _) | (with_reducible refine Kd.C_drewN ?_ _) | (with_reducible refine Kd.C_drew ?_))); (case side2 => exact HC0_2.out); (case side3 => repeat (first | exact (Kd.C_below HR0_4.out HB.out) | (with_reducible refine Kd.C_alloc ?_ _) | (with_reducible refine Kd.C_drewN ?_ _) | (with_reducible refine Kd.C_drew ?_))); (case side4 => exact HC0_4.out); rintro e w23 ⟨v1126, v1130, rfl, ho0, ho1, hb⟩; refine ⟨_, rfl, ?_⟩; have n0_ := Aside0.mk (Kd.R_lower ho0 (below_size (by repeat (first | (with_reducible first | exact HB.out | apply below_alloc | apply pw_below_drewN | apply below_drew1 | refine below_set ?_ GE1121.out) | exact HB.out)))); have n1_ := Aside0.mk (Kd.R_lower ho1 (below_size (by repeat (first | (with_reducible first | exact HB.out | apply below_alloc | apply pw_below_drewN | apply below_drew1 | refine below_set ?_ GE1121.out) | exact HB.out)))); have n2_ := Aside0.mk (blk_below (g := gb1121) (o := .cells #[.string a0_0, .int .i64 a0_1, .slice A0_2 l0_2.length c0_2, .int .i64 a0_3, .slice A0_4 l0_4.length c0_4] 25 (0, 0)) (by (with_reducible repeat (first | refine blk_drewN ?_ _ | refine blk_drew ?_ | refine blk_alloc ?_ _)); exact BK1121.out) hb); have n3_ := Aside0.mk (below_step (by repeat (first | (with_reducible first | exact HB.out | apply below_alloc | apply pw_below_drewN | apply below_drew1 | refine below_set ?_ GE1121.out) | exact HB.out)) hb); clear BK1121; clear HB; have HO1127 := n0_; have HO1131 := n1_; have BK1121 := n2_; have HB := n3_; clear n0_ n1_ n2_ n3_; (try clear hb); (try clear hb2); (try clear hk); (try clear hi); (try clear ho0); (try clear ho1); obtain ⟨Ao24, co24, eo24⟩ := Kd.R_slice HO1127.out; subst eo24; obtain ⟨Ao25, co25, eo25⟩ := Kd.R_slice HO1131.out; subst eo25) | ((with_reducible refine gate_callee (f := 23) rfl ?_); refine goesL_ (some 21) rfl rfl Try.func23 (by kernel_rfl) rfl #[.agg #[.string t1123, .int .i64 t1124, .slice Ao24 t1125.length co24, .int .i64 t1128, .slice Ao25 t1129.length co25], .int .i64 a1] rfl (by (try simp only [List.map_toArray, List.map_cons, List.map_nil]); first | done | rfl | (simp only [List.length_drop, List.length_take]; rfl)) ?_; (with_reducible refine (spec_PrevBlocks.calls k t1123 t1124 _ _ t1125 t1128 _ _ t1129 a1 t1132 _ ?side1 ?side2 ?side3 ?side4 A9.out).mono ?_); (case side1 => repeat (first | exact (Kd.R_reads' HO1127.out).2.2 | (with_reducible refine Kd.C_alloc ?_ _) | (with_reducible refine Kd.C_drewN ?_ _) | (with_reducible refine Kd.C_drew ?_))); (case side2 => exact (Kd.R_reads' HO1127.out).2.1); (case side3 => repeat (first | exact (Kd.R_reads' HO1131.out).2.2 | (with_reducible refine Kd.C_alloc ?_ _) | (with_reducible refine Kd.C_drewN ?_ _) | (with_reducible refine Kd.C_drew ?_))); (case side4 => exact (Kd.R_reads' HO1131.out).2.1); rintro e w26 ⟨v1133, rfl, ho0, hb⟩; refine ⟨_, rfl, ?_⟩; have n0_ := Aside0.mk (Kd.R_elder' (by (with_reducible repeat (first | apply Kd.R_alloc | apply Kd.R_drewN | apply Kd.R_drew)); exact HO1127.out) (Kd.R_base ho0) hb); have n1_ := Aside0.mk (Kd.R_elder' (by (with_reducible repeat (first | apply Kd.R_alloc | apply Kd.R_drewN | apply Kd.R_drew)); exact HO1131.out) (Kd.R_base ho0) hb); have n2_ := Aside0.mk (Kd.R_lower (Kd.R_new' ho0 (Kd.R_lt (by (with_reducible repeat (first | apply Kd.R_alloc | apply Kd.R_drewN | apply Kd.R_drew)); exact HO1127.out))) (below_size (by repeat (first | (with_reducible first | exact HB.out | apply below_alloc | apply pw_below_drewN | apply below_drew1 | refine below_set ?_ GE1121.out) | exact HB.out)))); have n3_ := Aside0.mk (blk_below (g := gb1121) (o := .cells #[.string a0_0, .int .i64 a0_1, .slice A0_2 l0_2.length c0_2, .int .i64 a0_3, .slice A0_4 l0_4.length c0_4] 25 (0, 0)) (by (with_reducible repeat (first | refine blk_drewN ?_ _ | refine blk_drew ?_ | refine blk_alloc ?_ _)); exact BK1121.out) hb); have n4_ := Aside0.mk (below_step (by repeat (first | (with_reducible first | exact HB.out | apply below_alloc | apply pw_below_drewN | apply below_drew1 | refine below_set ?_ GE1121.out) | exact HB.out)) hb); clear HO1127; clear HO1131; clear BK1121; clear HB; have HO1127 := n0_; have HO1131 := n1_; have HO1134 := n2_; have BK1121 := n3_; have HB := n4_; clear n0_ n1_ n2_ n3_ n4_; (try clear hb); (try clear hb2); (try clear hk); (try clear hi); (try clear ho0); have hcz27_0 : w26.cell? ⟨gb1121, 0, none⟩ = some (.string a0_0) := (blk_cell BK1121.out 0).trans rfl; have hcz27_1 : w26.cell? ⟨gb1121, 1, none⟩ = some (.int .i64 a0_1) := (blk_cell BK1121.out 1).trans rfl; have hcz27_2 : w26.cell? ⟨gb1121, 2, none⟩ = some (.slice A0_2 l0_2.length c0_2) := (blk_cell BK1121.out 2).trans rfl; have hcz27_3 : w26.cell? ⟨gb1121, 3, none⟩ = some (.int .i64 a0_3) := (blk_cell BK1121.out 3).trans rfl; have hcz27_4 : w26.cell? ⟨gb1121, 4, none⟩ = some (.slice A0_4 l0_4.length c0_4) := (blk_cell BK1121.out 4).trans rfl; have hfz27_0 := blk_frozen BK1121.out 0; have hfz27_1 := blk_frozen BK1121.out 1; have hfz27_2 := blk_frozen BK1121.out 2; have hfz27_3 := blk_frozen BK1121.out 3; have hfz27_4 := blk_frozen BK1121.out 4) | ((with_reducible refine gate_callee (f := 14) rfl ?_); refine goesL_ (some 23) rfl rfl Try.func14 (by kernel_rfl) rfl #[.agg #[.string a0_0, .int .i64 a0_1, .slice A0_2 l0_2.length c0_2, .int .i64 a0_3, .slice A0_4 l0_4.length c0_4]] rfl (by (try simp only [List.map_toArray, List.map_cons, List.map_nil]); first | done | rfl | (simp only [List.length_drop, List.length_take]; rfl)) ?_; (with_reducible refine (laws_toFunc.calls k a0_0 a0_1 _ _ l0_2 a0_3 _ _ l0_4 t1135 t1136 t1137 t1140 t1141 _ ?side1 ?side2 ?side3 ?side4 A10.out).mono ?_); (case side1 => repeat (first | exact (Kd.C_below HR0_2.out HB.out) | (with_reducible refine Kd.C_alloc ?_ _) | (with_reducible refine Kd.C_drewN ?_ _) | (with_reducible refine Kd.C_drew ?_))); (case side2 => exact HC0_2.out); (case side3 => repeat (first | exact (Kd.C_below HR0_4.out HB.out) | (with_reducible refine Kd.C_alloc ?_ _) | (with_reducible refine Kd.C_drewN ?_ _) | (with_reducible refine Kd.C_drew ?_))); (case side4 => exact HC0_4.out); rintro e w28 ⟨v1138, v1142, rfl, ho0, ho1, hb⟩; refine ⟨_, rfl, ?_⟩; have n0_ := Aside0.mk (Kd.R_elder' (by (with_reducible repeat (first | apply Kd.R_alloc | apply Kd.R_drewN | apply Kd.R_drew)); exact HO1127.out) (Kd.R_base ho0) hb); have n1_ := Aside0.mk (Kd.R_mono (Kd.R_told (Kd.R_told (Kd.R_old (by (with_reducible repeat (first | apply Kd.R_alloc | apply Kd.R_drewN | apply Kd.R_drew)); exact HO1131.out) hb) (Kd.R_base ho0)) (Kd.R_base ho1)) (fun _ h_ => h_.1)); have n2_ := Aside0.mk (Kd.R_elder' (by (with_reducible repeat (first | apply Kd.R_alloc | apply Kd.R_drewN | apply Kd.R_drew)); exact HO1134.out) (Kd.R_base ho0) hb); have n3_ := Aside0.mk (Kd.R_lower (Kd.R_new' (Kd.R_new' ho0 (Kd.R_lt (by (with_reducible repeat (first | apply Kd.R_alloc | apply Kd.R_drewN | apply Kd.R_drew)); exact HO1127.out))) (Kd.R_lt (by (with_reducible repeat (first | apply Kd.R_alloc | apply Kd.R_drewN | apply Kd.R_drew)); exact HO1134.out))) (below_size (by repeat (first | (with_reducible first | exact HB.out | apply below_alloc | apply pw_below_drewN | apply below_drew1 | refine below_set ?_ GE1121.out) | exact HB.out)))); have n4_ := Aside0.mk (Kd.R_lower (Kd.R_new' (Kd.R_new' (Kd.R_new' ho1 (Kd.R_lt (by (with_reducible repeat (first | apply Kd.R_alloc | apply Kd.R_drewN | apply Kd.R_drew)); exact HO1127.out))) (Kd.R_lt (by (with_reducible repeat (first | apply Kd.R_alloc | apply Kd.R_drewN | apply Kd.R_drew)); exact HO1131.out))) (Kd.R_lt (by (with_reducible repeat (first | apply Kd.R_alloc | apply Kd.R_drewN | apply Kd.R_drew)); exact HO1134.out))) (below_size (by repeat (first | (with_reducible first | exact HB.out | apply below_alloc | apply pw_below_drewN | apply below_drew1 | refine below_set ?_ GE1121.out) | exact HB.out)))); have n5_ := Aside0.mk (blk_below (g := gb1121) (o := .cells #[.string a0_0, .int .i64 a0_1, .slice A0_2 l0_2.length c0_2, .int .i64 a0_3, .slice A0_4 l0_4.length c0_4] 25 (0, 0)) (by (with_reducible repeat (first | refine blk_drewN ?_ _ | refine blk_drew ?_ | refine blk_alloc ?_ _)); exact BK1121.out) hb); have n6_ := Aside0.mk (below_step (by repeat (first | (with_reducible first | exact HB.out | apply below_alloc | apply pw_below_drewN | apply below_drew1 | refine below_set ?_ GE1121.out) | exact HB.out)) hb); clear HO1127; clear HO1131; clear HO1134; clear BK1121; clear HB; have HO1127 := n0_; have HO1131 := n1_; have HO1134 := n2_; have HO1139 := n3_; have HO1143 := n4_; have BK1121 := n5_; have HB := n6_; clear n0_ n1_ n2_ n3_ n4_ n5_ n6_; (try clear hb); (try clear hb2); (try clear hk); (try clear hi); (try clear ho0); (try clear ho1)) | ((with_reducible refine gate_dst (N := 7) rfl ?_); refine box_event ?hg (N := 7) ?hd (cs := #[.string (⟨#[]⟩ : ByteArray), .int .i64 0, .slice none 0 0, .int .i64 0, .slice none 0 0]) (t := 30) ?hr ?_; (case hd => rfl); (case hg => rfl); (case hr => first | (go_simp; done) | (go_simp; rfl)); intro gb1144 hg w29 hbox hb; have n0_ := Aside0.mk (Kd.R_below (by (with_reducible repeat (first | apply Kd.R_alloc | apply Kd.R_drewN | apply Kd.R_drew)); exact HO1127.out) hb); have n1_ := Aside0.mk (Kd.R_below (by (with_reducible repeat (first | apply Kd.R_alloc | apply Kd.R_drewN | apply Kd.R_drew)); exact HO1131.out) hb); have n2_ := Aside0.mk (Kd.R_below (by (with_reducible repeat (first | apply Kd.R_alloc | apply Kd.R_drewN | apply Kd.R_drew)); exact HO1134.out) hb); have n3_ := Aside0.mk (Kd.R_below (by (with_reducible repeat (first | apply Kd.R_alloc | apply Kd.R_drewN | apply Kd.R_drew)); exact HO1139.out) hb); have n4_ := Aside0.mk (Kd.R_below (by (with_reducible repeat (first | apply Kd.R_alloc | apply Kd.R_drewN | apply Kd.R_drew)); exact HO1143.out) hb); have n5_ := Aside0.mk (blk_below (g := gb1121) (o := .cells #[.string a0_0, .int .i64 a0_1, .slice A0_2 l0_2.length c0_2, .int .i64 a0_3, .slice A0_4 l0_4.length c0_4] 25 (0, 0)) (by (with_reducible repeat (first | refine blk_drewN ?_ _ | refine blk_drew ?_ | refine blk_alloc ?_ _)); exact BK1121.out) hb); have n6_ := Aside0.mk (below_step (by repeat (first | (with_reducible first | exact HB.out | apply below_alloc | apply pw_below_drewN | apply below_drew1 | refine below_set ?_ GE1121.out) | exact HB.out)) hb); have n7_ := Aside0.mk (hbox); have n8_ := Aside0.mk ((by rw [hg]; exact (below_size (by repeat (first | (with_reducible first | exact HB.out | apply below_alloc | apply pw_below_drewN | apply below_drew1 | refine below_set ?_ GE1121.out) | exact HB.out))) : w.heap.size ≤ gb1144)); have n9_ := Aside0.mk ((by rw [hg]; exact (below_size (by repeat (first | (with_reducible first | exact HB.out | apply below_alloc | apply pw_below_drewN | apply below_drew1 | refine below_set ?_ GE1121.out) | exact HB.out))) : w.heap.size ≤ gb1144)); have n10_ := Aside0.mk ((by rw [hg]; exact Nat.ne_of_lt (blk_lt (g := gb1121) (o := .cells #[.string a0_0, .int .i64 a0_1, .slice A0_2 l0_2.length c0_2, .int .i64 a0_3, .slice A0_4 l0_4.length c0_4] 25 (0, 0)) (by (with_reducible repeat (first | refine blk_drewN ?_ _ | refine blk_drew ?_ | refine blk_alloc ?_ _)); exact BK1121.out)) : gb1121 ≠ gb1144)); have n11_ := Aside0.mk ((by rw [hg]; exact Nat.ne_of_gt (blk_lt (g := gb1121) (o := .cells #[.string a0_0, .int .i64 a0_1, .slice A0_2 l0_2.length c0_2, .int .i64 a0_3, .slice A0_4 l0_4.length c0_4] 25 (0, 0)) (by (with_reducible repeat (first | refine blk_drewN ?_ _ | refine blk_drew ?_ | refine blk_alloc ?_ _)); exact BK1121.out)) : gb1144 ≠ gb1121)); clear HO1127; clear HO1131; clear HO1134; clear HO1139; clear HO1143; clear BK1121; clear HB; have HO1127 := n0_; have HO1131 := n1_; have HO1134 := n2_; have HO1139 := n3_; have HO1143 := n4_; have BK1121 := n5_; have HB := n6_; have BK1144 := n7_; have GW1144 := n8_; have GE1144 := n9_; have NB1121_1144 := n10_; have NB1144_1121 := n11_; clear n0_ n1_ n2_ n3_ n4_ n5_ n6_ n7_ n8_ n9_ n10_ n11_; clear hb hbox hg; have hnb30 := NB1144_1121.out; have hnc30 := NB1121_1144.out; have hcz31_0 : w29.cell? ⟨gb1144, 0, none⟩ = some (.string (⟨#[]⟩ : ByteArray)) := (blk_cell BK1144.out 0).trans rfl; have hcz31_1 : w29.cell? ⟨gb1144, 1, none⟩ = some (.int .i64 0) := (blk_cell BK1144.out 1).trans rfl; have hcz31_2 : w29.cell? ⟨gb1144, 2, none⟩ = some (.slice none 0 0) := (blk_cell BK1144.out 2).trans rfl; have hcz31_3 : w29.cell? ⟨gb1144, 3, none⟩ = some (.int .i64 0) := (blk_cell BK1144.out 3).trans rfl; have hcz31_4 : w29.cell? ⟨gb1144, 4, none⟩ = some (.slice none 0 0) := (blk_cell BK1144.out 4).trans rfl; have hfz31_0 := blk_frozen BK1144.out 0; have hfz31_1 := blk_frozen BK1144.out 1; have hfz31_2 := blk_frozen BK1144.out 2; have hfz31_3 := blk_frozen BK1144.out 3; have hfz31_4 := blk_frozen BK1144.out 4; obtain ⟨Ao32, co32, eo32⟩ := Kd.R_slice HO1139.out; subst eo32; obtain ⟨Ao33, co33, eo33⟩ := Kd.R_slice HO1143.out; subst eo33) | ((with_reducible refine gate_callee (f := 24) rfl ?_); refine goesL_ (some 26) rfl rfl Try.func24 (by kernel_rfl) rfl #[.agg #[.string t1135, .int .i64 t1136, .slice Ao32 t1137.length co32, .int .i64 t1140, .slice Ao33 t1141.length co33], .int .i64 a1] rfl (by (try simp only [List.map_toArray, List.map_cons, List.map_nil]); first | done | rfl | (simp only [List.length_drop, List.length_take]; rfl)) ?_; (with_reducible refine (impl_PrevBlocks.calls k t1135 t1136 _ _ t1137 t1140 _ _ t1141 a1 t1145 _ ?side1 ?side2 ?side3 ?side4 A11.out).mono ?_); (case side1 => refine (Kd.R_reads' (e := 2) (base := w.heap.size) (ok := fun k_ => ((True ∧ some k_ ≠ (.slice Ao24 t1125.length co24 : Value).ownBlock) ∧ some k_ ≠ (v1133 : Value).ownBlock)) (n := t1137.length) (c := co32) ?_).2.2; exact (by (with_reducible repeat (first | apply Kd.R_alloc | apply Kd.R_drewN | apply Kd.R_drew)); exact (Kd.R_mono (Kd.R_far (p := ⟨gb1144, 4, none⟩) (Kd.R_far (p := ⟨gb1144, 3, none⟩) (Kd.R_far (p := ⟨gb1144, 2, none⟩) (Kd.R_far (p := ⟨gb1144, 1, none⟩) (Kd.R_far (p := ⟨gb1144, 0, none⟩) (Kd.R_types HO1139.out BK1144.out (by decide)) (fun _ hk => hk.2) (.string t1135)) (fun _ hk => hk.2) (.int .i64 t1136)) (fun _ hk => hk.2) (.slice Ao32 t1137.length co32)) (fun _ hk => hk.2) (.int .i64 t1140)) (fun _ hk => hk.2) (.slice Ao33 t1141.length co33)) (fun _ h_ => h_.1)))); (case side2 => exact (Kd.R_reads' HO1139.out).2.1); (case side3 => refine (Kd.R_reads' (e := 62) (base := w.heap.size) (ok := fun k_ => (((some k_ ≠ (.slice Ao32 t1137.length co32 : Value).ownBlock ∧ some k_ ≠ (.slice Ao24 t1125.length co24 : Value).ownBlock) ∧ some k_ ≠ (.slice Ao25 t1129.length co25 : Value).ownBlock) ∧ some k_ ≠ (v1133 : Value).ownBlock)) (n := t1141.length) (c := co33) ?_).2.2; exact (by (with_reducible repeat (first | apply Kd.R_alloc | apply Kd.R_drewN | apply Kd.R_drew)); exact (Kd.R_mono (Kd.R_far (p := ⟨gb1144, 4, none⟩) (Kd.R_far (p := ⟨gb1144, 3, none⟩) (Kd.R_far (p := ⟨gb1144, 2, none⟩) (Kd.R_far (p := ⟨gb1144, 1, none⟩) (Kd.R_far (p := ⟨gb1144, 0, none⟩) (Kd.R_types HO1143.out BK1144.out (by decide)) (fun _ hk => hk.2) (.string t1135)) (fun _ hk => hk.2) (.int .i64 t1136)) (fun _ hk => hk.2) (.slice Ao32 t1137.length co32)) (fun _ hk => hk.2) (.int .i64 t1140)) (fun _ hk => hk.2) (.slice Ao33 t1141.length co33)) (fun _ h_ => h_.1)))); (case side4 => exact (Kd.R_reads' HO1143.out).2.1); rintro e w34 ⟨v1146, rfl, ho0, hb⟩; refine ⟨_, rfl, ?_⟩; have n0_ := Aside0.mk (Kd.R_elder' (by (with_reducible repeat (first | apply Kd.R_alloc | apply Kd.R_drewN | apply Kd.R_drew)); exact (Kd.R_mono (Kd.R_far (p := ⟨gb1144, 4, none⟩) (Kd.R_far (p := ⟨gb1144, 3, none⟩) (Kd.R_far (p := ⟨gb1144, 2, none⟩) (Kd.R_far (p := ⟨gb1144, 1, none⟩) (Kd.R_far (p := ⟨gb1144, 0, none⟩) (Kd.R_types HO1127.out BK1144.out (by decide)) (fun _ hk => hk.2) (.string t1135)) (fun _ hk => hk.2) (.int .i64 t1136)) (fun _ hk => hk.2) (.slice Ao32 t1137.length co32)) (fun _ hk => hk.2) (.int .i64 t1140)) (fun _ hk => hk.2) (.slice Ao33 t1141.length co33)) (fun _ h_ => h_.1))) (Kd.R_base ho0) hb); have n1_ := Aside0.mk (Kd.R_elder' (by (with_reducible repeat (first | apply Kd.R_alloc | apply Kd.R_drewN | apply Kd.R_drew)); exact (Kd.R_mono (Kd.R_far (p := ⟨gb1144, 4, none⟩) (Kd.R_far (p := ⟨gb1144, 3, none⟩) (Kd.R_far (p := ⟨gb1144, 2, none⟩) (Kd.R_far (p := ⟨gb1144, 1, none⟩) (Kd.R_far (p := ⟨gb1144, 0, none⟩) (Kd.R_types HO1131.out BK1144.out (by decide)) (fun _ hk => hk.2) (.string t1135)) (fun _ hk => hk.2) (.int .i64 t1136)) (fun _ hk => hk.2) (.slice Ao32 t1137.length co32)) (fun _ hk => hk.2) (.int .i64 t1140)) (fun _ hk => hk.2) (.slice Ao33 t1141.length co33)) (fun _ h_ => h_.1))) (Kd.R_base ho0) hb); have n2_ := Aside0.mk (Kd.R_elder' (by (with_reducible repeat (first | apply Kd.R_alloc | apply Kd.R_drewN | apply Kd.R_drew)); exact (Kd.R_mono (Kd.R_far (p := ⟨gb1144, 4, none⟩) (Kd.R_far (p := ⟨gb1144, 3, none⟩) (Kd.R_far (p := ⟨gb1144, 2, none⟩) (Kd.R_far (p := ⟨gb1144, 1, none⟩) (Kd.R_far (p := ⟨gb1144, 0, none⟩) (Kd.R_types HO1134.out BK1144.out (by decide)) (fun _ hk => hk.2) (.string t1135)) (fun _ hk => hk.2) (.int .i64 t1136)) (fun _ hk => hk.2) (.slice Ao32 t1137.length co32)) (fun _ hk => hk.2) (.int .i64 t1140)) (fun _ hk => hk.2) (.slice Ao33 t1141.length co33)) (fun _ h_ => h_.1))) (Kd.R_base ho0) hb); have n3_ := Aside0.mk (Kd.R_elder' (by (with_reducible repeat (first | apply Kd.R_alloc | apply Kd.R_drewN | apply Kd.R_drew)); exact (Kd.R_mono (Kd.R_far (p := ⟨gb1144, 4, none⟩) (Kd.R_far (p := ⟨gb1144, 3, none⟩) (Kd.R_far (p := ⟨gb1144, 2, none⟩) (Kd.R_far (p := ⟨gb1144, 1, none⟩) (Kd.R_far (p := ⟨gb1144, 0, none⟩) (Kd.R_types HO1139.out BK1144.out (by decide)) (fun _ hk => hk.2) (.string t1135)) (fun _ hk => hk.2) (.int .i64 t1136)) (fun _ hk => hk.2) (.slice Ao32 t1137.length co32)) (fun _ hk => hk.2) (.int .i64 t1140)) (fun _ hk => hk.2) (.slice Ao33 t1141.length co33)) (fun _ h_ => h_.1))) (Kd.R_base ho0) hb); have n4_ := Aside0.mk (Kd.R_elder' (by (with_reducible repeat (first | apply Kd.R_alloc | apply Kd.R_drewN | apply Kd.R_drew)); exact (Kd.R_mono (Kd.R_far (p := ⟨gb1144, 4, none⟩) (Kd.R_far (p := ⟨gb1144, 3, none⟩) (Kd.R_far (p := ⟨gb1144, 2, none⟩) (Kd.R_far (p := ⟨gb1144, 1, none⟩) (Kd.R_far (p := ⟨gb1144, 0, none⟩) (Kd.R_types HO1143.out BK1144.out (by decide)) (fun _ hk => hk.2) (.string t1135)) (fun _ hk => hk.2) (.int .i64 t1136)) (fun _ hk => hk.2) (.slice Ao32 t1137.length co32)) (fun _ hk => hk.2) (.int .i64 t1140)) (fun _ hk => hk.2) (.slice Ao33 t1141.length co33)) (fun _ h_ => h_.1))) (Kd.R_base ho0) hb); have n5_ := Aside0.mk (Kd.R_lower (Kd.R_new' (Kd.R_new' (Kd.R_new' ho0 (Kd.R_lt (by (with_reducible repeat (first | apply Kd.R_alloc | apply Kd.R_drewN | apply Kd.R_drew)); exact (Kd.R_mono (Kd.R_far (p := ⟨gb1144, 4, none⟩) (Kd.R_far (p := ⟨gb1144, 3, none⟩) (Kd.R_far (p := ⟨gb1144, 2, none⟩) (Kd.R_far (p := ⟨gb1144, 1, none⟩) (Kd.R_far (p := ⟨gb1144, 0, none⟩) (Kd.R_types HO1127.out BK1144.out (by decide)) (fun _ hk => hk.2) (.string t1135)) (fun _ hk => hk.2) (.int .i64 t1136)) (fun _ hk => hk.2) (.slice Ao32 t1137.length co32)) (fun _ hk => hk.2) (.int .i64 t1140)) (fun _ hk => hk.2) (.slice Ao33 t1141.length co33)) (fun _ h_ => h_.1))))) (Kd.R_lt (by (with_reducible repeat (first | apply Kd.R_alloc | apply Kd.R_drewN | apply Kd.R_drew)); exact (Kd.R_mono (Kd.R_far (p := ⟨gb1144, 4, none⟩) (Kd.R_far (p := ⟨gb1144, 3, none⟩) (Kd.R_far (p := ⟨gb1144, 2, none⟩) (Kd.R_far (p := ⟨gb1144, 1, none⟩) (Kd.R_far (p := ⟨gb1144, 0, none⟩) (Kd.R_types HO1134.out BK1144.out (by decide)) (fun _ hk => hk.2) (.string t1135)) (fun _ hk => hk.2) (.int .i64 t1136)) (fun _ hk => hk.2) (.slice Ao32 t1137.length co32)) (fun _ hk => hk.2) (.int .i64 t1140)) (fun _ hk => hk.2) (.slice Ao33 t1141.length co33)) (fun _ h_ => h_.1))))) (Kd.R_lt (by (with_reducible repeat (first | apply Kd.R_alloc | apply Kd.R_drewN | apply Kd.R_drew)); exact (Kd.R_mono (Kd.R_far (p := ⟨gb1144, 4, none⟩) (Kd.R_far (p := ⟨gb1144, 3, none⟩) (Kd.R_far (p := ⟨gb1144, 2, none⟩) (Kd.R_far (p := ⟨gb1144, 1, none⟩) (Kd.R_far (p := ⟨gb1144, 0, none⟩) (Kd.R_types HO1139.out BK1144.out (by decide)) (fun _ hk => hk.2) (.string t1135)) (fun _ hk => hk.2) (.int .i64 t1136)) (fun _ hk => hk.2) (.slice Ao32 t1137.length co32)) (fun _ hk => hk.2) (.int .i64 t1140)) (fun _ hk => hk.2) (.slice Ao33 t1141.length co33)) (fun _ h_ => h_.1))))) (below_size (by repeat (first | (with_reducible first | exact HB.out | apply below_alloc | apply pw_below_drewN | apply below_drew1 | refine below_set ?_ GE1121.out | refine below_set ?_ GE1144.out) | exact HB.out)))); have n6_ := Aside0.mk (blk_below (g := gb1121) (o := .cells #[.string a0_0, .int .i64 a0_1, .slice A0_2 l0_2.length c0_2, .int .i64 a0_3, .slice A0_4 l0_4.length c0_4] 25 (0, 0)) (by (with_reducible repeat (first | refine blk_drewN ?_ _ | refine blk_drew ?_ | refine blk_alloc ?_ _)); refine blk_far ?_ NB1121_1144.out _; (with_reducible repeat (first | refine blk_drewN ?_ _ | refine blk_drew ?_ | refine blk_alloc ?_ _)); refine blk_far ?_ NB1121_1144.out _; (with_reducible repeat (first | refine blk_drewN ?_ _ | refine blk_drew ?_ | refine blk_alloc ?_ _)); refine blk_far ?_ NB1121_1144.out _; (with_reducible repeat (first | refine blk_drewN ?_ _ | refine blk_drew ?_ | refine blk_alloc ?_ _)); refine blk_far ?_ NB1121_1144.out _; (with_reducible repeat (first | refine blk_drewN ?_ _ | refine blk_drew ?_ | refine blk_alloc ?_ _)); refine blk_far ?_ NB1121_1144.out _; (with_reducible repeat (first | refine blk_drewN ?_ _ | refine blk_drew ?_ | refine blk_alloc ?_ _)); exact BK1121.out) hb); have n7_ := Aside0.mk (blk_below (g := gb1144) (o := .cells #[.string t1135, .int .i64 t1136, .slice Ao32 t1137.length co32, .int .i64 t1140, .slice Ao33 t1141.length co33] 30 (0, 0)) (by (with_reducible repeat (first | refine blk_drewN ?_ _ | refine blk_drew ?_ | refine blk_alloc ?_ _)); refine blk_put (cs := #[.string t1135, .int .i64 t1136, .slice Ao32 t1137.length co32, .int .i64 t1140, .slice none 0 0]) ?_ 4 _ rfl; (with_reducible repeat (first | refine blk_drewN ?_ _ | refine blk_drew ?_ | refine blk_alloc ?_ _)); refine blk_put (cs := #[.string t1135, .int .i64 t1136, .slice Ao32 t1137.length co32, .int .i64 0, .slice none 0 0]) ?_ 3 _ rfl; (with_reducible repeat (first | refine blk_drewN ?_ _ | refine blk_drew ?_ | refine blk_alloc ?_ _)); refine blk_put (cs := #[.string t1135, .int .i64 t1136, .slice none 0 0, .int .i64 0, .slice none 0 0]) ?_ 2 _ rfl; (with_reducible repeat (first | refine blk_drewN ?_ _ | refine blk_drew ?_ | refine blk_alloc ?_ _)); refine blk_put (cs := #[.string t1135, .int .i64 0, .slice none 0 0, .int .i64 0, .slice none 0 0]) ?_ 1 _ rfl; (with_reducible repeat (first | refine blk_drewN ?_ _ | refine blk_drew ?_ | refine blk_alloc ?_ _)); refine blk_put (cs := #[.string (⟨#[]⟩ : ByteArray), .int .i64 0, .slice none 0 0, .int .i64 0, .slice none 0 0]) ?_ 0 _ rfl; (with_reducible repeat (first | refine blk_drewN ?_ _ | refine blk_drew ?_ | refine blk_alloc ?_ _)); exact BK1144.out) hb); have n8_ := Aside0.mk (below_step (by repeat (first | (with_reducible first | exact HB.out | apply below_alloc | apply pw_below_drewN | apply below_drew1 | refine below_set ?_ GE1121.out | refine below_set ?_ GE1144.out) | exact HB.out)) hb); clear HO1127; clear HO1131; clear HO1134; clear HO1139; clear HO1143; clear BK1121; clear BK1144; clear HB; have HO1127 := n0_; have HO1131 := n1_; have HO1134 := n2_; have HO1139 := n3_; have HO1143 := n4_; have HO1147 := n5_; have BK1121 := n6_; have BK1144 := n7_; have HB := n8_; clear n0_ n1_ n2_ n3_ n4_ n5_ n6_ n7_ n8_; (try clear hb); (try clear hb2); (try clear hk); (try clear hi); (try clear ho0); obtain ⟨Ao35, co35, eo35⟩ := Kd.R_slice HO1147.out; subst eo35; obtain ⟨Ao36, co36, eo36⟩ := Kd.R_slice HO1134.out; subst eo36) | ((with_reducible refine gate_callee (f := 19) rfl ?_); refine goesL_ (some 29) rfl rfl Try.func19 (by kernel_rfl) rfl #[.slice Ao35 t1145.length co35, .slice Ao36 t1132.length co36] rfl (by (try simp only [List.map_toArray, List.map_cons, List.map_nil]); first | done | rfl | (simp only [List.length_drop, List.length_take]; rfl)) ?_; (with_reducible refine (laws_eqInt64S.calls k _ _ t1145 _ _ t1132 true _ ?side1 ?side2 ?side3 ?side4 A12.out).mono ?_); (case side1 => repeat (first | exact (Kd.R_reads' HO1147.out).2.2 | (with_reducible refine Kd.C_alloc ?_ _) | (with_reducible refine Kd.C_drewN ?_ _) | (with_reducible refine Kd.C_drew ?_))); (case side2 => exact (Kd.R_reads' HO1147.out).2.1); (case side3 => repeat (first | exact (Kd.R_reads' HO1134.out).2.2 | (with_reducible refine Kd.C_alloc ?_ _) | (with_reducible refine Kd.C_drewN ?_ _) | (with_reducible refine Kd.C_drew ?_))); (case side4 => exact (Kd.R_reads' HO1134.out).2.1); rintro e w' ⟨rfl, ⟨nd, rfl⟩⟩; refine ⟨_, rfl, ?_⟩))
        (try (rw [drewN_self w34]; generalize hq_ : World.drewN w34 _ = w34; have n0_ : Aside0 (Kd.R (Kd.int .i64) 2 w34 w.heap.size (fun k_ => (((True ∧ some k_ ≠ (.slice Ao36 t1132.length co36 : Value).ownBlock) ∧ some k_ ≠ (.slice Ao32 t1137.length co32 : Value).ownBlock) ∧ some k_ ≠ (.slice Ao35 t1145.length co35 : Value).ownBlock)) (.slice Ao24 t1125.length co24) t1125) := ⟨by rw [← hq_]; exact (by (with_reducible repeat (first | apply Kd.R_alloc | apply Kd.R_drewN | apply Kd.R_drew)); exact HO1127.out)⟩; have n1_ : Aside0 (Kd.R k62 62 w34 w.heap.size (fun k_ => ((((some k_ ≠ (.slice Ao24 t1125.length co24 : Value).ownBlock ∧ some k_ ≠ (.slice Ao36 t1132.length co36 : Value).ownBlock) ∧ some k_ ≠ (.slice Ao32 t1137.length co32 : Value).ownBlock) ∧ some k_ ≠ (.slice Ao33 t1141.length co33 : Value).ownBlock) ∧ some k_ ≠ (.slice Ao35 t1145.length co35 : Value).ownBlock)) (.slice Ao25 t1129.length co25) t1129) := ⟨by rw [← hq_]; exact (by (with_reducible repeat (first | apply Kd.R_alloc | apply Kd.R_drewN | apply Kd.R_drew)); exact HO1131.out)⟩; have n2_ : Aside0 (Kd.R (Kd.int .i64) 2 w34 w.heap.size (fun k_ => (((True ∧ some k_ ≠ (.slice Ao24 t1125.length co24 : Value).ownBlock) ∧ some k_ ≠ (.slice Ao32 t1137.length co32 : Value).ownBlock) ∧ some k_ ≠ (.slice Ao35 t1145.length co35 : Value).ownBlock)) (.slice Ao36 t1132.length co36) t1132) := ⟨by rw [← hq_]; exact (by (with_reducible repeat (first | apply Kd.R_alloc | apply Kd.R_drewN | apply Kd.R_drew)); exact HO1134.out)⟩; have n3_ : Aside0 (Kd.R (Kd.int .i64) 2 w34 w.heap.size (fun k_ => (((True ∧ some k_ ≠ (.slice Ao24 t1125.length co24 : Value).ownBlock) ∧ some k_ ≠ (.slice Ao36 t1132.length co36 : Value).ownBlock) ∧ some k_ ≠ (.slice Ao35 t1145.length co35 : Value).ownBlock)) (.slice Ao32 t1137.length co32) t1137) := ⟨by rw [← hq_]; exact (by (with_reducible repeat (first | apply Kd.R_alloc | apply Kd.R_drewN | apply Kd.R_drew)); exact HO1139.out)⟩; have n4_ : Aside0 (Kd.R k62 62 w34 w.heap.size (fun k_ => ((((some k_ ≠ (.slice Ao32 t1137.length co32 : Value).ownBlock ∧ some k_ ≠ (.slice Ao24 t1125.length co24 : Value).ownBlock) ∧ some k_ ≠ (.slice Ao25 t1129.length co25 : Value).ownBlock) ∧ some k_ ≠ (.slice Ao36 t1132.length co36 : Value).ownBlock) ∧ some k_ ≠ (.slice Ao35 t1145.length co35 : Value).ownBlock)) (.slice Ao33 t1141.length co33) t1141) := ⟨by rw [← hq_]; exact (by (with_reducible repeat (first | apply Kd.R_alloc | apply Kd.R_drewN | apply Kd.R_drew)); exact HO1143.out)⟩; have n5_ : Aside0 (Kd.R (Kd.int .i64) 2 w34 w.heap.size (fun k_ => (((True ∧ some k_ ≠ (.slice Ao24 t1125.length co24 : Value).ownBlock) ∧ some k_ ≠ (.slice Ao36 t1132.length co36 : Value).ownBlock) ∧ some k_ ≠ (.slice Ao32 t1137.length co32 : Value).ownBlock)) (.slice Ao35 t1145.length co35) t1145) := ⟨by rw [← hq_]; exact (by (with_reducible repeat (first | apply Kd.R_alloc | apply Kd.R_drewN | apply Kd.R_drew)); exact HO1147.out)⟩; have n6_ : Aside0 (w34.heap[gb1121]? = some (.cells #[.string a0_0, .int .i64 a0_1, .slice A0_2 l0_2.length c0_2, .int .i64 a0_3, .slice A0_4 l0_4.length c0_4] 25 (0, 0))) := ⟨by rw [← hq_]; exact (by (with_reducible repeat (first | refine blk_drewN ?_ _ | refine blk_drew ?_ | refine blk_alloc ?_ _)); exact BK1121.out)⟩; have n7_ : Aside0 (w34.heap[gb1144]? = some (.cells #[.string t1135, .int .i64 t1136, .slice Ao32 t1137.length co32, .int .i64 t1140, .slice Ao33 t1141.length co33] 30 (0, 0))) := ⟨by rw [← hq_]; exact (by (with_reducible repeat (first | refine blk_drewN ?_ _ | refine blk_drew ?_ | refine blk_alloc ?_ _)); exact BK1144.out)⟩; have n8_ : Aside0 (Below w.heap.size w w34) := ⟨by rw [← hq_]; exact (by repeat (first | (with_reducible first | exact HB.out | apply below_alloc | apply pw_below_drewN | apply below_drew1 | refine below_set ?_ GE1121.out | refine below_set ?_ GE1144.out) | exact HB.out))⟩; clear HO1127 HO1131 HO1134 HO1139 HO1143 HO1147 BK1121 BK1144 HB hq_; have HO1127 := n0_; have HO1131 := n1_; have HO1134 := n2_; have HO1139 := n3_; have HO1143 := n4_; have HO1147 := n5_; have BK1121 := n6_; have BK1144 := n7_; have HB := n8_; clear n0_ n1_ n2_ n3_ n4_ n5_ n6_ n7_ n8_))
        have n0_ := Aside0.mk (Kd.R_drew HO1127.out)
        have n1_ := Aside0.mk (Kd.R_drew HO1131.out)
        have n2_ := Aside0.mk (Kd.R_drew HO1134.out)
        have n3_ := Aside0.mk (Kd.R_drew HO1139.out)
        have n4_ := Aside0.mk (Kd.R_drew HO1143.out)
        have n5_ := Aside0.mk (Kd.R_drew HO1147.out)
        have n6_ := Aside0.mk (blk_drew BK1121.out)
        have n7_ := Aside0.mk (blk_drew BK1144.out)
        have n8_ := Aside0.mk (below_drew1 HB.out)
        clear HO1127
        clear HO1131
        clear HO1134
        clear HO1139
        clear HO1143
        clear HO1147
        clear BK1121
        clear BK1144
        clear HB
        have HO1127 := n0_
        have HO1131 := n1_
        have HO1134 := n2_
        have HO1139 := n3_
        have HO1143 := n4_
        have HO1147 := n5_
        have BK1121 := n6_
        have BK1144 := n7_
        have HB := n8_
        clear n0_ n1_ n2_ n3_ n4_ n5_ n6_ n7_ n8_
        refine start_ (n := 5) (S := fun w' => w'.cell? ⟨gb1144, 0, none⟩ = some (.string t1135) ∧ w'.cell? ⟨gb1144, 1, none⟩ = some (.int .i64 t1136) ∧ w'.cell? ⟨gb1144, 2, none⟩ = some (.slice Ao32 t1137.length co32) ∧ w'.cell? ⟨gb1144, 3, none⟩ = some (.int .i64 t1140) ∧ w'.cell? ⟨gb1144, 4, none⟩ = some (.slice Ao33 t1141.length co33) ∧ w'.cell? ⟨gb1121, 0, none⟩ = some (.string a0_0) ∧ w'.cell? ⟨gb1121, 1, none⟩ = some (.int .i64 a0_1) ∧ w'.cell? ⟨gb1121, 2, none⟩ = some (.slice A0_2 l0_2.length c0_2) ∧ w'.cell? ⟨gb1121, 3, none⟩ = some (.int .i64 a0_3) ∧ w'.cell? ⟨gb1121, 4, none⟩ = some (.slice A0_4 l0_4.length c0_4)) (ds := []) #[false, false, false, false, false] (by kernel_rfl) rfl rfl ⟨(blk_cell BK1144.out 0).trans rfl, (blk_cell BK1144.out 1).trans rfl, (blk_cell BK1144.out 2).trans rfl, (blk_cell BK1144.out 3).trans rfl, (blk_cell BK1144.out 4).trans rfl, (blk_cell BK1121.out 0).trans rfl, (blk_cell BK1121.out 1).trans rfl, (blk_cell BK1121.out 2).trans rfl, (blk_cell BK1121.out 3).trans rfl, (blk_cell BK1121.out 4).trans rfl⟩ (fun hHeld => ?_)
        generalize w34.drew = w37 at HO1127 HO1131 HO1134 HO1139 HO1143 HO1147 BK1121 BK1144 HB hHeld ⊢
        refine take_ (i := 0) (N := some 31) (v := ?_) (a' := ?_) #[true, false, false, false, false] rfl rfl (by kernel_rfl) (fun _ _ _ h => h) (Or.inl ⟨by rfl, ?_⟩) hHeld ?_ ?_
        rotate_left
        · rintro w' ⟨s0, s1, s2, s3, s4, s5, s6, s7, s8, s9⟩
          go_simp
          with_reducible rfl
        rotate_left
        · simp only [Act.put, List.setIfInBounds_toArray, List.set_cons_zero, List.set_cons_succ, i64_w, i32_w]
          rfl
        refine take_ (i := 1) (N := some 32) (v := ?_) (a' := ?_) #[true, true, false, false, false] rfl rfl (by kernel_rfl) (fun _ _ _ h => h) (Or.inl ⟨by rfl, ?_⟩) hHeld ?_ ?_
        rotate_left
        · rintro w' ⟨s0, s1, s2, s3, s4, s5, s6, s7, s8, s9⟩
          go_simp
          with_reducible rfl
        rotate_left
        · simp only [Act.put, List.setIfInBounds_toArray, List.set_cons_zero, List.set_cons_succ, i64_w, i32_w]
          rfl
        refine one_ (i := 2) (N := some 33) #[true, true, true, false, false] rfl rfl (by kernel_rfl) (by decide) (fun K hK => ?_)
        refine goes_ Try.func14 (by kernel_rfl) rfl #[.agg #[.string a0_0, .int .i64 a0_1, .slice A0_2 l0_2.length c0_2, .int .i64 a0_3, .slice A0_4 l0_4.length c0_4]] (by rfl) rfl rfl (by (try simp only [List.map_toArray, List.map_cons, List.map_nil]); first | done | rfl | (simp only [List.length_drop, List.length_take]; rfl)) ?_
        with_reducible refine (laws_toFunc.calls k a0_0 a0_1 _ _ l0_2 a0_3 _ _ l0_4 t1149 t1150 t1151 t1154 t1155 _ ?side1 ?side2 ?side3 ?side4 A14.out).mono ?_
        (case side1 => repeat (first | exact (Kd.C_below HR0_2.out HB.out) | (with_reducible refine Kd.C_alloc ?_ _) | (with_reducible refine Kd.C_drewN ?_ _) | (with_reducible refine Kd.C_drew ?_)))
        (case side2 => exact HC0_2.out)
        (case side3 => repeat (first | exact (Kd.C_below HR0_4.out HB.out) | (with_reducible refine Kd.C_alloc ?_ _) | (with_reducible refine Kd.C_drewN ?_ _) | (with_reducible refine Kd.C_drew ?_)))
        (case side4 => exact HC0_4.out)
        rintro e w38 ⟨v1152, v1156, rfl, ho0, ho1, hb⟩
        refine ⟨_, rfl, ?_⟩
        have n0_ := Aside0.mk (Kd.R_elder' (by (with_reducible repeat (first | apply Kd.R_alloc | apply Kd.R_drewN | apply Kd.R_drew)); exact HO1127.out) (Kd.R_base ho0) hb)
        have n1_ := Aside0.mk (Kd.R_mono (Kd.R_told (Kd.R_told (Kd.R_old (by (with_reducible repeat (first | apply Kd.R_alloc | apply Kd.R_drewN | apply Kd.R_drew)); exact HO1131.out) hb) (Kd.R_base ho0)) (Kd.R_base ho1)) (fun _ h_ => h_.1))
        have n2_ := Aside0.mk (Kd.R_elder' (by (with_reducible repeat (first | apply Kd.R_alloc | apply Kd.R_drewN | apply Kd.R_drew)); exact HO1134.out) (Kd.R_base ho0) hb)
        have n3_ := Aside0.mk (Kd.R_elder' (by (with_reducible repeat (first | apply Kd.R_alloc | apply Kd.R_drewN | apply Kd.R_drew)); exact HO1139.out) (Kd.R_base ho0) hb)
        have n4_ := Aside0.mk (Kd.R_mono (Kd.R_told (Kd.R_told (Kd.R_old (by (with_reducible repeat (first | apply Kd.R_alloc | apply Kd.R_drewN | apply Kd.R_drew)); exact HO1143.out) hb) (Kd.R_base ho0)) (Kd.R_base ho1)) (fun _ h_ => h_.1))
        have n5_ := Aside0.mk (Kd.R_elder' (by (with_reducible repeat (first | apply Kd.R_alloc | apply Kd.R_drewN | apply Kd.R_drew)); exact HO1147.out) (Kd.R_base ho0) hb)
        have n6_ := Aside0.mk (Kd.R_lower (Kd.R_new' (Kd.R_new' (Kd.R_new' (Kd.R_new' ho0 (Kd.R_lt (by (with_reducible repeat (first | apply Kd.R_alloc | apply Kd.R_drewN | apply Kd.R_drew)); exact HO1127.out))) (Kd.R_lt (by (with_reducible repeat (first | apply Kd.R_alloc | apply Kd.R_drewN | apply Kd.R_drew)); exact HO1134.out))) (Kd.R_lt (by (with_reducible repeat (first | apply Kd.R_alloc | apply Kd.R_drewN | apply Kd.R_drew)); exact HO1139.out))) (Kd.R_lt (by (with_reducible repeat (first | apply Kd.R_alloc | apply Kd.R_drewN | apply Kd.R_drew)); exact HO1147.out))) (below_size (by repeat (first | (with_reducible first | exact HB.out | apply below_alloc | apply pw_below_drewN | apply below_drew1 | refine below_set ?_ GE1121.out | refine below_set ?_ GE1144.out) | exact HB.out))))
        have n7_ := Aside0.mk (Kd.R_lower (Kd.R_new' (Kd.R_new' (Kd.R_new' (Kd.R_new' (Kd.R_new' (Kd.R_new' ho1 (Kd.R_lt (by (with_reducible repeat (first | apply Kd.R_alloc | apply Kd.R_drewN | apply Kd.R_drew)); exact HO1127.out))) (Kd.R_lt (by (with_reducible repeat (first | apply Kd.R_alloc | apply Kd.R_drewN | apply Kd.R_drew)); exact HO1131.out))) (Kd.R_lt (by (with_reducible repeat (first | apply Kd.R_alloc | apply Kd.R_drewN | apply Kd.R_drew)); exact HO1134.out))) (Kd.R_lt (by (with_reducible repeat (first | apply Kd.R_alloc | apply Kd.R_drewN | apply Kd.R_drew)); exact HO1139.out))) (Kd.R_lt (by (with_reducible repeat (first | apply Kd.R_alloc | apply Kd.R_drewN | apply Kd.R_drew)); exact HO1143.out))) (Kd.R_lt (by (with_reducible repeat (first | apply Kd.R_alloc | apply Kd.R_drewN | apply Kd.R_drew)); exact HO1147.out))) (below_size (by repeat (first | (with_reducible first | exact HB.out | apply below_alloc | apply pw_below_drewN | apply below_drew1 | refine below_set ?_ GE1121.out | refine below_set ?_ GE1144.out) | exact HB.out))))
        have n8_ := Aside0.mk (blk_below (g := gb1121) (o := .cells #[.string a0_0, .int .i64 a0_1, .slice A0_2 l0_2.length c0_2, .int .i64 a0_3, .slice A0_4 l0_4.length c0_4] 25 (0, 0)) (by (with_reducible repeat (first | refine blk_drewN ?_ _ | refine blk_drew ?_ | refine blk_alloc ?_ _)); exact BK1121.out) hb)
        have n9_ := Aside0.mk (blk_below (g := gb1144) (o := .cells #[.string t1135, .int .i64 t1136, .slice Ao32 t1137.length co32, .int .i64 t1140, .slice Ao33 t1141.length co33] 30 (0, 0)) (by (with_reducible repeat (first | refine blk_drewN ?_ _ | refine blk_drew ?_ | refine blk_alloc ?_ _)); exact BK1144.out) hb)
        have n10_ := Aside0.mk (below_step (by repeat (first | (with_reducible first | exact HB.out | apply below_alloc | apply pw_below_drewN | apply below_drew1 | refine below_set ?_ GE1121.out | refine below_set ?_ GE1144.out) | exact HB.out)) hb)
        clear HO1127
        clear HO1131
        clear HO1134
        clear HO1139
        clear HO1143
        clear HO1147
        clear BK1121
        clear BK1144
        clear HB
        have HO1127 := n0_
        have HO1131 := n1_
        have HO1134 := n2_
        have HO1139 := n3_
        have HO1143 := n4_
        have HO1147 := n5_
        have HO1153 := n6_
        have HO1157 := n7_
        have BK1121 := n8_
        have BK1144 := n9_
        have HB := n10_
        clear n0_ n1_ n2_ n3_ n4_ n5_ n6_ n7_ n8_ n9_ n10_
        (try clear hb)
        (try clear hb2)
        (try clear hk)
        (try clear hi)
        (try clear ho0)
        (try clear ho1)
        obtain ⟨Ao39, co39, eo39⟩ := Kd.R_slice HO1153.out
        (first | subst eo39 | (injection eo39 with f1_ f2_ f3_; have f4_ := f1_.symm; have f5_ := f3_.symm; clear f1_ f2_ f3_; subst f4_; subst f5_))
        obtain ⟨Ao40, co40, eo40⟩ := Kd.R_slice HO1157.out
        (first | subst eo40 | (injection eo40 with f1_ f2_ f3_; have f4_ := f1_.symm; have f5_ := f3_.symm; clear f1_ f2_ f3_; subst f4_; subst f5_))
        refine hK.out _ _ ⟨(blk_cell BK1144.out 0).trans rfl, (blk_cell BK1144.out 1).trans rfl, (blk_cell BK1144.out 2).trans rfl, (blk_cell BK1144.out 3).trans rfl, (blk_cell BK1144.out 4).trans rfl, (blk_cell BK1121.out 0).trans rfl, (blk_cell BK1121.out 1).trans rfl, (blk_cell BK1121.out 2).trans rfl, (blk_cell BK1121.out 3).trans rfl, (blk_cell BK1121.out 4).trans rfl⟩ (fun hHeld => ?_)
        clear hK K
        refine norm_ (a' := ?_) ?_ ?_
        rotate_left
        · show Act.put _ (some 33) _ = _
          simp only [Act.put, List.setIfInBounds_toArray, List.set_cons_zero, List.set_cons_succ, i64_w, i32_w]
          rfl
        refine one_ (i := 3) (N := some 34) #[true, true, true, true, false] rfl rfl (by kernel_rfl) (by decide) (fun K hK => ?_)
        refine goes_ Try.func16 (by kernel_rfl) rfl #[.agg #[.string t1135, .int .i64 t1136, .slice Ao32 t1137.length co32, .int .i64 t1140, .slice Ao33 t1141.length co33], .agg #[.string t1149, .int .i64 t1150, .slice Ao39 t1151.length co39, .int .i64 t1154, .slice Ao40 t1155.length co40]] (by rfl) rfl rfl (by (try simp only [List.map_toArray, List.map_cons, List.map_nil]); first | done | rfl | (simp only [List.length_drop, List.length_take]; rfl)) ?_
        with_reducible refine (laws_eqFunc.calls k t1135 t1136 _ _ t1137 t1140 _ _ t1141 t1149 t1150 _ _ t1151 t1154 _ _ t1155 true _ ?side1 ?side2 ?side3 ?side4 ?side5 ?side6 ?side7 ?side8 A15.out).mono ?_
        (case side1 => repeat (first | exact (Kd.R_reads' HO1139.out).2.2 | (with_reducible refine Kd.C_alloc ?_ _) | (with_reducible refine Kd.C_drewN ?_ _) | (with_reducible refine Kd.C_drew ?_)))
        (case side2 => exact (Kd.R_reads' HO1139.out).2.1)
        (case side3 => repeat (first | exact (Kd.R_reads' HO1143.out).2.2 | (with_reducible refine Kd.C_alloc ?_ _) | (with_reducible refine Kd.C_drewN ?_ _) | (with_reducible refine Kd.C_drew ?_)))
        (case side4 => exact (Kd.R_reads' HO1143.out).2.1)
        (case side5 => repeat (first | exact (Kd.R_reads' HO1153.out).2.2 | (with_reducible refine Kd.C_alloc ?_ _) | (with_reducible refine Kd.C_drewN ?_ _) | (with_reducible refine Kd.C_drew ?_)))
        (case side6 => exact (Kd.R_reads' HO1153.out).2.1)
        (case side7 => repeat (first | exact (Kd.R_reads' HO1157.out).2.2 | (with_reducible refine Kd.C_alloc ?_ _) | (with_reducible refine Kd.C_drewN ?_ _) | (with_reducible refine Kd.C_drew ?_)))
        (case side8 => exact (Kd.R_reads' HO1157.out).2.1)
        rintro e w41 ⟨rfl, hb⟩
        refine ⟨_, rfl, ?_⟩
        have n0_ := Aside0.mk (Kd.R_below (by (with_reducible repeat (first | apply Kd.R_alloc | apply Kd.R_drewN | apply Kd.R_drew)); exact HO1127.out) hb)
        have n1_ := Aside0.mk (Kd.R_below (by (with_reducible repeat (first | apply Kd.R_alloc | apply Kd.R_drewN | apply Kd.R_drew)); exact HO1131.out) hb)
        have n2_ := Aside0.mk (Kd.R_below (by (with_reducible repeat (first | apply Kd.R_alloc | apply Kd.R_drewN | apply Kd.R_drew)); exact HO1134.out) hb)
        have n3_ := Aside0.mk (Kd.R_below (by (with_reducible repeat (first | apply Kd.R_alloc | apply Kd.R_drewN | apply Kd.R_drew)); exact HO1139.out) hb)
        have n4_ := Aside0.mk (Kd.R_below (by (with_reducible repeat (first | apply Kd.R_alloc | apply Kd.R_drewN | apply Kd.R_drew)); exact HO1143.out) hb)
        have n5_ := Aside0.mk (Kd.R_below (by (with_reducible repeat (first | apply Kd.R_alloc | apply Kd.R_drewN | apply Kd.R_drew)); exact HO1147.out) hb)
        have n6_ := Aside0.mk (Kd.R_below (by (with_reducible repeat (first | apply Kd.R_alloc | apply Kd.R_drewN | apply Kd.R_drew)); exact HO1153.out) hb)
        have n7_ := Aside0.mk (Kd.R_below (by (with_reducible repeat (first | apply Kd.R_alloc | apply Kd.R_drewN | apply Kd.R_drew)); exact HO1157.out) hb)
        have n8_ := Aside0.mk (blk_below (g := gb1121) (o := .cells #[.string a0_0, .int .i64 a0_1, .slice A0_2 l0_2.length c0_2, .int .i64 a0_3, .slice A0_4 l0_4.length c0_4] 25 (0, 0)) (by (with_reducible repeat (first | refine blk_drewN ?_ _ | refine blk_drew ?_ | refine blk_alloc ?_ _)); exact BK1121.out) hb)
        have n9_ := Aside0.mk (blk_below (g := gb1144) (o := .cells #[.string t1135, .int .i64 t1136, .slice Ao32 t1137.length co32, .int .i64 t1140, .slice Ao33 t1141.length co33] 30 (0, 0)) (by (with_reducible repeat (first | refine blk_drewN ?_ _ | refine blk_drew ?_ | refine blk_alloc ?_ _)); exact BK1144.out) hb)
        have n10_ := Aside0.mk (below_step (by repeat (first | (with_reducible first | exact HB.out | apply below_alloc | apply pw_below_drewN | apply below_drew1 | refine below_set ?_ GE1121.out | refine below_set ?_ GE1144.out) | exact HB.out)) hb)
        clear HO1127
        clear HO1131
        clear HO1134
        clear HO1139
        clear HO1143
        clear HO1147
        clear HO1153
        clear HO1157
        clear BK1121
        clear BK1144
        clear HB
        have HO1127 := n0_
        have HO1131 := n1_
        have HO1134 := n2_
        have HO1139 := n3_
        have HO1143 := n4_
        have HO1147 := n5_
        have HO1153 := n6_
        have HO1157 := n7_
        have BK1121 := n8_
        have BK1144 := n9_
        have HB := n10_
        clear n0_ n1_ n2_ n3_ n4_ n5_ n6_ n7_ n8_ n9_ n10_
        (try clear hb)
        (try clear hb2)
        (try clear hk)
        (try clear hi)
        refine hK.out _ _ ⟨(blk_cell BK1144.out 0).trans rfl, (blk_cell BK1144.out 1).trans rfl, (blk_cell BK1144.out 2).trans rfl, (blk_cell BK1144.out 3).trans rfl, (blk_cell BK1144.out 4).trans rfl, (blk_cell BK1121.out 0).trans rfl, (blk_cell BK1121.out 1).trans rfl, (blk_cell BK1121.out 2).trans rfl, (blk_cell BK1121.out 3).trans rfl, (blk_cell BK1121.out 4).trans rfl⟩ (fun hHeld => ?_)
        clear hK K
        refine norm_ (a' := ?_) ?_ ?_
        rotate_left
        · show Act.put _ (some 34) _ = _
          simp only [Act.put, List.setIfInBounds_toArray, List.set_cons_zero, List.set_cons_succ, i64_w, i32_w]
          rfl
        refine pure_ (i := 4) (N := some 35) (v := ?_) (a' := ?_) #[true, true, true, true, true] rfl rfl (by kernel_rfl) (fun _ _ _ h => h) (Or.inl ⟨by rfl, ?_⟩) ?_ ?_
        rotate_left
        · intro w'
          go_simp
          with_reducible rfl
        rotate_left
        · simp only [Act.put, List.setIfInBounds_toArray, List.set_cons_zero, List.set_cons_succ, i64_w, i32_w]
          rfl
        refine done_ (by kernel_rfl) ?_
        have hcz42_0 : w41.cell? ⟨gb1144, 0, none⟩ = some (.string t1135) := (blk_cell BK1144.out 0).trans rfl
        have hcz42_1 : w41.cell? ⟨gb1144, 1, none⟩ = some (.int .i64 t1136) := (blk_cell BK1144.out 1).trans rfl
        have hcz42_2 : w41.cell? ⟨gb1144, 2, none⟩ = some (.slice Ao32 t1137.length co32) := (blk_cell BK1144.out 2).trans rfl
        have hcz42_3 : w41.cell? ⟨gb1144, 3, none⟩ = some (.int .i64 t1140) := (blk_cell BK1144.out 3).trans rfl
        have hcz42_4 : w41.cell? ⟨gb1144, 4, none⟩ = some (.slice Ao33 t1141.length co33) := (blk_cell BK1144.out 4).trans rfl
        have hfz42_0 := blk_frozen BK1144.out 0
        have hfz42_1 := blk_frozen BK1144.out 1
        have hfz42_2 := blk_frozen BK1144.out 2
        have hfz42_3 := blk_frozen BK1144.out 3
        have hfz42_4 := blk_frozen BK1144.out 4
        go_upto_region 14 with (first | ((with_reducible refine gate_callee (f := 20) rfl ?_); refine goesL_ (some 38) rfl rfl Try.func20 (by kernel_rfl) rfl #[.agg #[.string t1135, .int .i64 t1136, .slice Ao32 t1137.length co32, .int .i64 t1140, .slice Ao33 t1141.length co33], .int .i64 1] rfl (by (try simp only [List.map_toArray, List.map_cons, List.map_nil]); first | done | rfl | (simp only [List.length_drop, List.length_take]; rfl)) ?_; (with_reducible refine (laws_markFunc.calls t1135 t1136 (fun k_ => some k_ = (.slice Ao32 t1137.length co32 : Value).ownBlock) (.slice Ao32 t1137.length co32) t1137 t1140 (fun k_ => ((((((((some k_ ≠ (.slice Ao32 t1137.length co32 : Value).ownBlock ∧ some k_ ≠ (.slice Ao24 t1125.length co24 : Value).ownBlock) ∧ some k_ ≠ (.slice Ao25 t1129.length co25 : Value).ownBlock) ∧ some k_ ≠ (.slice Ao36 t1132.length co36 : Value).ownBlock) ∧ some k_ ≠ (.slice Ao35 t1145.length co35 : Value).ownBlock) ∧ some k_ ≠ (.slice Ao39 t1151.length co39 : Value).ownBlock) ∧ some k_ ≠ (.slice Ao40 t1155.length co40 : Value).ownBlock) ∧ k_ ≠ gb1121) ∧ k_ ≠ gb1144) ∧ w.heap.size ≤ k_) (.slice Ao33 t1141.length co33) t1141 1 t1159 w _ ?side1 ?side2 ?side3 A17.out).mono ?_); (case side1 => repeat (first | (with_reducible first | exact HB.out | apply below_alloc | apply pw_below_drewN | apply below_drew1 | refine below_set ?_ GE1121.out | refine below_set ?_ GE1144.out) | exact HB.out)); (case side2 => exact Kd.R_tight rfl HO1139.out); (case side3 => exact Kd.R_mono (Kd.R_bound (Kd.R_types (Kd.R_types (HO1143.out) BK1121.out (by decide)) BK1144.out (by decide))) (fun _ h_ => ⟨h_.1, h_.2.1⟩)); rintro e w43 ⟨rfl, hb, hkp⟩; refine ⟨_, rfl, ?_⟩; have n0_ := Aside0.mk (blk_kept (by (with_reducible repeat (first | refine blk_drewN ?_ _ | refine blk_drew ?_ | refine blk_alloc ?_ _)); exact BK1121.out) hkp (fun hs_ => Or.elim hs_ (fun e_ => (fun e_ => (Kd.R_ne HO1139.out BK1121.out (by decide)) e_) e_) (fun e_ => (fun p_ => (p_.1.1.2) rfl) e_))); have n1_ := Aside0.mk (Kd.R_mono (ok' := fun k_ => some k_ ≠ (.slice Ao36 t1132.length co36 : Value).ownBlock ∧ some k_ ≠ (.slice Ao35 t1145.length co35 : Value).ownBlock ∧ some k_ ≠ (.slice Ao39 t1151.length co39 : Value).ownBlock) (Kd.R_keptB ((Kd.R_mono (Kd.R_tight2 rfl HO1127.out) (fun k_ hk => (⟨hk.2, fun p_ => (p_.1.1.1.1.1.1.1.1.2) hk.1⟩ : _ ∧ ¬ ((fun k_ => ((((((((some k_ ≠ (.slice Ao32 t1137.length co32 : Value).ownBlock ∧ some k_ ≠ (.slice Ao24 t1125.length co24 : Value).ownBlock) ∧ some k_ ≠ (.slice Ao25 t1129.length co25 : Value).ownBlock) ∧ some k_ ≠ (.slice Ao36 t1132.length co36 : Value).ownBlock) ∧ some k_ ≠ (.slice Ao35 t1145.length co35 : Value).ownBlock) ∧ some k_ ≠ (.slice Ao39 t1151.length co39 : Value).ownBlock) ∧ some k_ ≠ (.slice Ao40 t1155.length co40 : Value).ownBlock) ∧ k_ ≠ gb1121) ∧ k_ ≠ gb1144) ∧ w.heap.size ≤ k_)) k_)))) hkp (fun k_ hk_ hs_ => Or.elim hs_ (fun e_ => (hk_.1.1.1.2) e_) (fun e_ => (hk_.2) e_))) (fun k_ hk_ => ⟨hk_.1.1.1.1.1.2, hk_.1.1.1.2, hk_.1.1.2⟩)); have n2_ := Aside0.mk (Kd.R_mono (ok' := fun k_ => some k_ ≠ (.slice Ao24 t1125.length co24 : Value).ownBlock ∧ some k_ ≠ (.slice Ao35 t1145.length co35 : Value).ownBlock ∧ some k_ ≠ (.slice Ao39 t1151.length co39 : Value).ownBlock) (Kd.R_keptB ((Kd.R_mono (Kd.R_tight2 rfl HO1134.out) (fun k_ hk => (⟨hk.2, fun p_ => (p_.1.1.1.1.1.1.2) hk.1⟩ : _ ∧ ¬ ((fun k_ => ((((((((some k_ ≠ (.slice Ao32 t1137.length co32 : Value).ownBlock ∧ some k_ ≠ (.slice Ao24 t1125.length co24 : Value).ownBlock) ∧ some k_ ≠ (.slice Ao25 t1129.length co25 : Value).ownBlock) ∧ some k_ ≠ (.slice Ao36 t1132.length co36 : Value).ownBlock) ∧ some k_ ≠ (.slice Ao35 t1145.length co35 : Value).ownBlock) ∧ some k_ ≠ (.slice Ao39 t1151.length co39 : Value).ownBlock) ∧ some k_ ≠ (.slice Ao40 t1155.length co40 : Value).ownBlock) ∧ k_ ≠ gb1121) ∧ k_ ≠ gb1144) ∧ w.heap.size ≤ k_)) k_)))) hkp (fun k_ hk_ hs_ => Or.elim hs_ (fun e_ => (hk_.1.1.1.2) e_) (fun e_ => (hk_.2) e_))) (fun k_ hk_ => ⟨hk_.1.1.1.1.1.2, hk_.1.1.1.2, hk_.1.1.2⟩)); have n3_ := Aside0.mk (blk_kept (by (with_reducible repeat (first | refine blk_drewN ?_ _ | refine blk_drew ?_ | refine blk_alloc ?_ _)); exact BK1144.out) hkp (fun hs_ => Or.elim hs_ (fun e_ => (fun e_ => (Kd.R_ne HO1139.out BK1144.out (by decide)) e_) e_) (fun e_ => (fun p_ => (p_.1.2) rfl) e_))); have n4_ := Aside0.mk (Kd.R_mono (ok' := fun k_ => some k_ ≠ (.slice Ao24 t1125.length co24 : Value).ownBlock ∧ some k_ ≠ (.slice Ao36 t1132.length co36 : Value).ownBlock ∧ some k_ ≠ (.slice Ao39 t1151.length co39 : Value).ownBlock) (Kd.R_keptB ((Kd.R_mono (Kd.R_tight2 rfl HO1147.out) (fun k_ hk => (⟨hk.2, fun p_ => (p_.1.1.1.1.1.2) hk.1⟩ : _ ∧ ¬ ((fun k_ => ((((((((some k_ ≠ (.slice Ao32 t1137.length co32 : Value).ownBlock ∧ some k_ ≠ (.slice Ao24 t1125.length co24 : Value).ownBlock) ∧ some k_ ≠ (.slice Ao25 t1129.length co25 : Value).ownBlock) ∧ some k_ ≠ (.slice Ao36 t1132.length co36 : Value).ownBlock) ∧ some k_ ≠ (.slice Ao35 t1145.length co35 : Value).ownBlock) ∧ some k_ ≠ (.slice Ao39 t1151.length co39 : Value).ownBlock) ∧ some k_ ≠ (.slice Ao40 t1155.length co40 : Value).ownBlock) ∧ k_ ≠ gb1121) ∧ k_ ≠ gb1144) ∧ w.heap.size ≤ k_)) k_)))) hkp (fun k_ hk_ hs_ => Or.elim hs_ (fun e_ => (hk_.1.1.2) e_) (fun e_ => (hk_.2) e_))) (fun k_ hk_ => ⟨hk_.1.1.1.1.1.2, hk_.1.1.1.1.2, hk_.1.1.2⟩)); have n5_ := Aside0.mk (Kd.R_mono (ok' := fun k_ => some k_ ≠ (.slice Ao24 t1125.length co24 : Value).ownBlock ∧ some k_ ≠ (.slice Ao36 t1132.length co36 : Value).ownBlock ∧ some k_ ≠ (.slice Ao35 t1145.length co35 : Value).ownBlock) (Kd.R_keptB ((Kd.R_mono (Kd.R_tight2 rfl HO1153.out) (fun k_ hk => (⟨hk.2, fun p_ => (p_.1.1.1.1.2) hk.1⟩ : _ ∧ ¬ ((fun k_ => ((((((((some k_ ≠ (.slice Ao32 t1137.length co32 : Value).ownBlock ∧ some k_ ≠ (.slice Ao24 t1125.length co24 : Value).ownBlock) ∧ some k_ ≠ (.slice Ao25 t1129.length co25 : Value).ownBlock) ∧ some k_ ≠ (.slice Ao36 t1132.length co36 : Value).ownBlock) ∧ some k_ ≠ (.slice Ao35 t1145.length co35 : Value).ownBlock) ∧ some k_ ≠ (.slice Ao39 t1151.length co39 : Value).ownBlock) ∧ some k_ ≠ (.slice Ao40 t1155.length co40 : Value).ownBlock) ∧ k_ ≠ gb1121) ∧ k_ ≠ gb1144) ∧ w.heap.size ≤ k_)) k_)))) hkp (fun k_ hk_ hs_ => Or.elim hs_ (fun e_ => (hk_.1.1.2) e_) (fun e_ => (hk_.2) e_))) (fun k_ hk_ => ⟨hk_.1.1.1.1.1.2, hk_.1.1.1.1.2, hk_.1.1.2⟩)); have n6_ := Aside0.mk (hb); clear BK1121; clear HO1127; clear HO1134; clear BK1144; clear HO1147; clear HO1153; clear HB; clear HO1139; clear HO1143; clear HO1131; clear HO1157; have BK1121 := n0_; have HO1127 := n1_; have HO1134 := n2_; have BK1144 := n3_; have HO1147 := n4_; have HO1153 := n5_; have HB := n6_; clear n0_ n1_ n2_ n3_ n4_ n5_ n6_; (try clear hb); (try clear hkp)))
        (try simp only [Act.put, List.setIfInBounds_toArray, List.set_cons_zero, List.set_cons_succ])
        go_cut [46] (fun v46 wc => ∃ (kq : Nat) (x46_17 : Bool), v46 = .bool x46_17 ∧ Aside0 (laws_FnExactPrevBlocks.j0 kq a1 t1132 t1145 x46_17 a0_0 a0_1 l0_2 a0_3 l0_4 = some r) ∧ Aside0 (kq ≤ k) ∧ Aside0 (Kd.R (Kd.int .i64) 2 wc w.heap.size (fun k_ => some k_ ≠ ((.slice Ao35 t1145.length co35) : Value).ownBlock) (.slice Ao36 t1132.length co36) t1132) ∧ Aside0 (Kd.R (Kd.int .i64) 2 wc w.heap.size (fun k_ => some k_ ≠ ((.slice Ao36 t1132.length co36) : Value).ownBlock) (.slice Ao35 t1145.length co35) t1145) ∧ Aside0 (wc.heap[gb1121]? = some (.cells #[.string a0_0, .int .i64 a0_1, (.slice A0_2 l0_2.length c0_2), .int .i64 a0_3, (.slice A0_4 l0_4.length c0_4)] 25 (0, 0))) ∧ Aside0 (Below w.heap.size w wc))
        case first =>
          have H := HC18.out
          clear HC18
          by_cases c44 : t1159 < 0
          · rw [if_pos c44] at H
            have c44b0 : decide (t1159 < 0) = true := decide_eq_true c44
            clear c44
            (first | rw [c44b0] | (simp only [i64_w, i32_w]; rw [c44b0]) | skip)
            have H' := Aside0.mk H
            clear H
            go_wp2
            go_meet
            case rel => exact ⟨_, (true), (by first | rfl | (simp; done) | (simp [*]; done)), H', ⟨by first | omega | exact Nat.le_refl _⟩, ⟨by (with_reducible repeat (first | apply Kd.R_alloc | apply Kd.R_drewN | apply Kd.R_drew)); exact Kd.R_mono HO1134.out (fun _ hk => hk.2.1)⟩, ⟨by (with_reducible repeat (first | apply Kd.R_alloc | apply Kd.R_drewN | apply Kd.R_drew)); exact Kd.R_mono HO1147.out (fun _ hk => hk.2.1)⟩, ⟨by (with_reducible repeat (first | refine blk_drewN ?_ _ | refine blk_drew ?_ | refine blk_alloc ?_ _)); exact BK1121.out⟩, ⟨by repeat (first | (with_reducible first | exact HB.out | apply below_alloc | apply pw_below_drewN | apply below_drew1 | refine below_set ?_ GE1121.out | refine below_set ?_ GE1144.out) | exact HB.out)⟩⟩
          · rw [if_neg c44] at H
            have c44b0 : decide (t1159 < 0) = false := decide_eq_false c44
            clear c44
            (first | rw [c44b0] | (simp only [i64_w, i32_w]; rw [c44b0]) | skip)
            replace H := Option.bind_eq_some_iff.mp H
            obtain ⟨t1160, A450, H⟩ := H
            replace H : (laws_FnExactPrevBlocks.j0 k a1 t1132 t1145 (!t1160) a0_0 a0_1 l0_2 a0_3 l0_4) = some r := H
            have A45 := Aside0.mk A450
            clear A450
            have H' := Aside0.mk H
            clear H
            go_wp2_with (first | (go_at_call 19; (with_reducible refine (laws_eqInt64S.calls k _ _ t1145 _ _ t1132 t1160 _ ?side1 ?side2 ?side3 ?side4 A45.out).mono ?_); (case side1 => repeat (first | exact (Kd.R_reads' HO1147.out).2.2 | (with_reducible refine Kd.C_alloc ?_ _) | (with_reducible refine Kd.C_drewN ?_ _) | (with_reducible refine Kd.C_drew ?_))); (case side2 => exact (Kd.R_reads' HO1147.out).2.1); (case side3 => repeat (first | exact (Kd.R_reads' HO1134.out).2.2 | (with_reducible refine Kd.C_alloc ?_ _) | (with_reducible refine Kd.C_drewN ?_ _) | (with_reducible refine Kd.C_drew ?_))); (case side4 => exact (Kd.R_reads' HO1134.out).2.1); rintro e w' ⟨rfl, ⟨nd, rfl⟩⟩))
            go_meet
            case rel => exact ⟨_, (!t1160), (by first | rfl | (simp; done) | (simp [*]; done)), H', ⟨by first | omega | exact Nat.le_refl _⟩, ⟨by (with_reducible repeat (first | apply Kd.R_alloc | apply Kd.R_drewN | apply Kd.R_drew)); exact Kd.R_mono HO1134.out (fun _ hk => hk.2.1)⟩, ⟨by (with_reducible repeat (first | apply Kd.R_alloc | apply Kd.R_drewN | apply Kd.R_drew)); exact Kd.R_mono HO1147.out (fun _ hk => hk.2.1)⟩, ⟨by (with_reducible repeat (first | refine blk_drewN ?_ _ | refine blk_drew ?_ | refine blk_alloc ?_ _)); exact BK1121.out⟩, ⟨by repeat (first | (with_reducible first | exact HB.out | apply below_alloc | apply pw_below_drewN | apply below_drew1 | refine below_set ?_ GE1121.out | refine below_set ?_ GE1144.out) | exact HB.out)⟩⟩
        case rest =>
          clear HC18
          try clear c1
          try clear c2
          try clear p2
          try clear c3
          try clear c4
          try clear c4b0
          try clear c5
          try clear c12
          try clear c13
          try clear c14
          try clear c16
          try clear c19
          try clear c20
          try clear c23
          try clear c24
          try clear c30
          try clear c44
          try clear c44b0
          try clear hcz20_0
          try clear hcz20_1
          try clear hcz20_2
          try clear hcz20_3
          try clear hcz20_4
          try clear hcz22_0
          try clear hcz22_1
          try clear hcz22_2
          try clear hcz22_3
          try clear hcz22_4
          try clear hcz27_0
          try clear hcz27_1
          try clear hcz27_2
          try clear hcz27_3
          try clear hcz27_4
          try clear hcz31_0
          try clear hcz31_1
          try clear hcz31_2
          try clear hcz31_3
          try clear hcz31_4
          try clear hcz42_0
          try clear hcz42_1
          try clear hcz42_2
          try clear hcz42_3
          try clear hcz42_4
          try clear hcz6_0
          try clear hcz6_1
          try clear hcz6_2
          try clear hcz6_3
          try clear hcz6_4
          try clear hfz20_0
          try clear hfz20_1
          try clear hfz20_2
          try clear hfz20_3
          try clear hfz20_4
          try clear hfz22_0
          try clear hfz22_1
          try clear hfz22_2
          try clear hfz22_3
          try clear hfz22_4
          try clear hfz27_0
          try clear hfz27_1
          try clear hfz27_2
          try clear hfz27_3
          try clear hfz27_4
          try clear hfz31_0
          try clear hfz31_1
          try clear hfz31_2
          try clear hfz31_3
          try clear hfz31_4
          try clear hfz42_0
          try clear hfz42_1
          try clear hfz42_2
          try clear hfz42_3
          try clear hfz42_4
          try clear hfz6_0
          try clear hfz6_1
          try clear hfz6_2
          try clear hfz6_3
          try clear hfz6_4
          obtain ⟨kq, x46_17, rfl, HA, HJ17, HO_6, HO_8, BK1121, HB⟩ := hcut
          cases kq with
          | zero => exact absurd HA.out (by simp [laws_FnExactPrevBlocks.j0])
          | succ kj17 =>
            have H := HA.out
            clear HA
            simp only [laws_FnExactPrevBlocks.j0] at H
            by_cases c46 : x46_17 = true
            · subst c46
              have H1 : (some false) = some r := by rw [if_pos rfl] at H; exact H
              clear H
              have H := H1
              clear H1
              obtain rfl := Option.some.inj H
              go_wp2
              go_ret
              exact ⟨by first | rfl | (simp [errW_none, errW_some] <;> rfl) | (simp [*, errW_none, errW_some] <;> rfl), by repeat (first | (with_reducible first | exact HB.out | apply below_alloc | apply pw_below_drewN | apply below_drew1 | refine below_set ?_ GE1121.out) | exact HB.out)⟩
            · replace c46 := Bool.eq_false_iff.mpr c46
              subst c46
              have H1 : ((laws_markInt64S.f kj17 t1145 1).bind fun bt1161 => ((laws_heldInt64S.f kj17 bt1161.2 1).bind fun t1163 => (if t1163 < 0 then (some false) else (if t1163 = bt1161.1 then ((laws_toFunc.f kj17 a0_0 a0_1 l0_2 a0_3 l0_4).bind fun bt1164 => ((impl_PrevBlocks.f kj17 bt1164.1 bt1164.2.1 bt1164.2.2.1 bt1164.2.2.2.1 bt1164.2.2.2.2 a1).bind fun t1173 => ((laws_eqInt64S.f kj17 t1173 t1132).bind fun t1176 => (if t1176 = true then ((laws_heldInt64S.f kj17 bt1161.2 1).bind fun t1177 => (if t1177 < 0 then (some false) else (if t1177 = bt1161.1 then (some true) else (some false)))) else (some false))))) else (some false))))) = some r := by rw [if_neg (show ¬ (false = true) by decide)] at H; exact H
              clear H
              have H := H1
              clear H1
              replace H := Option.bind_eq_some_iff.mp H
              obtain ⟨⟨t1161, t1162⟩, A470, H⟩ := H
              replace H : ((laws_heldInt64S.f kj17 t1162 1).bind fun t1163 => (if t1163 < 0 then (some false) else (if t1163 = t1161 then ((laws_toFunc.f kj17 a0_0 a0_1 l0_2 a0_3 l0_4).bind fun bt1164 => ((impl_PrevBlocks.f kj17 bt1164.1 bt1164.2.1 bt1164.2.2.1 bt1164.2.2.2.1 bt1164.2.2.2.2 a1).bind fun t1173 => ((laws_eqInt64S.f kj17 t1173 t1132).bind fun t1176 => (if t1176 = true then ((laws_heldInt64S.f kj17 t1162 1).bind fun t1177 => (if t1177 < 0 then (some false) else (if t1177 = t1161 then (some true) else (some false)))) else (some false))))) else (some false)))) = some r := H
              have A47 := Aside0.mk A470
              clear A470
              replace H := Option.bind_eq_some_iff.mp H
              obtain ⟨t1163, A480, H⟩ := H
              replace H : (if t1163 < 0 then (some false) else (if t1163 = t1161 then ((laws_toFunc.f kj17 a0_0 a0_1 l0_2 a0_3 l0_4).bind fun bt1164 => ((impl_PrevBlocks.f kj17 bt1164.1 bt1164.2.1 bt1164.2.2.1 bt1164.2.2.2.1 bt1164.2.2.2.2 a1).bind fun t1173 => ((laws_eqInt64S.f kj17 t1173 t1132).bind fun t1176 => (if t1176 = true then ((laws_heldInt64S.f kj17 t1162 1).bind fun t1177 => (if t1177 < 0 then (some false) else (if t1177 = t1161 then (some true) else (some false)))) else (some false))))) else (some false))) = some r := H
              have A48 := Aside0.mk A480
              clear A480
              by_cases c49 : t1163 < 0
              · rw [if_pos c49] at H
                have c49b0 : decide (t1163 < 0) = true := decide_eq_true c49
                clear c49
                obtain rfl := Option.some.inj H
                go_wp2_with (first | ((with_reducible refine gate_callee (f := 21) rfl ?_); refine goesL_ (some 49) rfl rfl Try.func21 (by kernel_rfl) rfl #[.slice Ao35 t1145.length co35, .int .i64 1] rfl (by (try simp only [List.map_toArray, List.map_cons, List.map_nil]); first | done | rfl | (simp only [List.length_drop, List.length_take]; rfl)) ?_; (with_reducible refine (laws_markInt64S.calls kj17 (fun k_ => some k_ = (.slice Ao35 t1145.length co35 : Value).ownBlock) (.slice Ao35 t1145.length co35) t1145 1 t1161 t1162 w _ ?side1 ?side2 A47.out).mono ?_); (case side1 => repeat (first | (with_reducible first | exact HB.out | apply below_alloc | apply pw_below_drewN | apply below_drew1 | refine below_set ?_ GE1121.out) | exact HB.out)); (case side2 => exact Kd.R_tight rfl HO_8.out); rintro e w50 ⟨rfl, hy0, hb, hkp⟩; refine ⟨_, rfl, ?_⟩; have n0_ := Aside0.mk (Kd.R_mono (ok' := fun k_ => some k_ ≠ (.slice Ao35 t1145.length co35 : Value).ownBlock) (Kd.R_keptB (HO_6.out) hkp (fun k_ hk_ hs_ => (hk_) hs_)) (fun k_ hk_ => hk_.1)); have n1_ := Aside0.mk (Kd.R_reok rfl hy0 (fun k_ e_ => HO_8.out.1 k_ e_)); have n2_ := Aside0.mk (blk_kept (by (with_reducible repeat (first | refine blk_drewN ?_ _ | refine blk_drew ?_ | refine blk_alloc ?_ _)); exact BK1121.out) hkp (fun hs_ => (fun e_ => (Kd.R_ne HO_8.out BK1121.out (by decide)) e_) hs_)); have n3_ := Aside0.mk (hb); clear HO_6; clear HO_8; clear BK1121; clear HB; have HO_6 := n0_; have HO_8 := n1_; have BK1121 := n2_; have HB := n3_; clear n0_ n1_ n2_ n3_; (try clear hb); (try clear hkp); (try clear hy0)) | ((with_reducible refine gate_callee (f := 22) rfl ?_); refine goesL_ (some 52) rfl rfl Try.func22 (by kernel_rfl) rfl #[.slice Ao35 t1162.length co35, .int .i64 1] rfl (by (try simp only [List.map_toArray, List.map_cons, List.map_nil]); first | done | (rw [show t1162.length = t1145.length from (Kd.R_reads' HO_8.out).1.symm] <;> rfl) | rfl | (simp only [List.length_drop, List.length_take]; rfl)) ?_; (with_reducible refine (laws_heldInt64S.calls kj17 _ _ t1162 1 t1163 _ ?side1 ?side2 A48.out).mono ?_); (case side1 => repeat (first | exact (Kd.R_reads' HO_8.out).2.2 | (with_reducible refine Kd.C_alloc ?_ _) | (with_reducible refine Kd.C_drewN ?_ _) | (with_reducible refine Kd.C_drew ?_))); (case side2 => rw [show t1162.length = t1145.length from (Kd.R_reads' HO_8.out).1.symm]; exact (Kd.R_reads' HO_8.out).2.1); rintro e w' ⟨rfl, ⟨nd, rfl⟩⟩; refine ⟨_, rfl, ?_⟩))
                go_ret
                exact ⟨by first | rfl | (simp [errW_none, errW_some] <;> rfl) | (simp [*, errW_none, errW_some] <;> rfl), by repeat (first | (with_reducible first | exact HB.out | apply below_alloc | apply pw_below_drewN | apply below_drew1 | refine below_set ?_ GE1121.out) | exact HB.out)⟩
              · rw [if_neg c49] at H
                have c49b0 : decide (t1163 < 0) = false := decide_eq_false c49
                clear c49
                by_cases c51 : t1163 = t1161
                · rw [if_pos c51] at H
                  have c51b0 : (t1163 == t1161) = true := beq_iff_eq.mpr c51
                  have c51b1 : (t1163 != t1161) = false := bne_eq_false_iff_eq.mpr c51
                  clear c51
                  replace H := Option.bind_eq_some_iff.mp H
                  obtain ⟨⟨t1164, t1165, t1166, t1169, t1170⟩, A520, H⟩ := H
                  replace H : ((impl_PrevBlocks.f kj17 t1164 t1165 t1166 t1169 t1170 a1).bind fun t1173 => ((laws_eqInt64S.f kj17 t1173 t1132).bind fun t1176 => (if t1176 = true then ((laws_heldInt64S.f kj17 t1162 1).bind fun t1177 => (if t1177 < 0 then (some false) else (if t1177 = t1161 then (some true) else (some false)))) else (some false)))) = some r := H
                  have A52 := Aside0.mk A520
                  clear A520
                  replace H := Option.bind_eq_some_iff.mp H
                  obtain ⟨t1173, A530, H⟩ := H
                  replace H : ((laws_eqInt64S.f kj17 t1173 t1132).bind fun t1176 => (if t1176 = true then ((laws_heldInt64S.f kj17 t1162 1).bind fun t1177 => (if t1177 < 0 then (some false) else (if t1177 = t1161 then (some true) else (some false)))) else (some false))) = some r := H
                  have A53 := Aside0.mk A530
                  clear A530
                  replace H := Option.bind_eq_some_iff.mp H
                  obtain ⟨t1176, A540, H⟩ := H
                  replace H : (if t1176 = true then ((laws_heldInt64S.f kj17 t1162 1).bind fun t1177 => (if t1177 < 0 then (some false) else (if t1177 = t1161 then (some true) else (some false)))) else (some false)) = some r := H
                  have A54 := Aside0.mk A540
                  clear A540
                  by_cases c55 : t1176 = true
                  · subst c55
                    have H1 : ((laws_heldInt64S.f kj17 t1162 1).bind fun t1177 => (if t1177 < 0 then (some false) else (if t1177 = t1161 then (some true) else (some false)))) = some r := by rw [if_pos rfl] at H; exact H
                    clear H
                    have H := H1
                    clear H1
                    replace H := Option.bind_eq_some_iff.mp H
                    obtain ⟨t1177, A560, H⟩ := H
                    replace H : (if t1177 < 0 then (some false) else (if t1177 = t1161 then (some true) else (some false))) = some r := H
                    have A56 := Aside0.mk A560
                    clear A560
                    by_cases c57 : t1177 < 0
                    · rw [if_pos c57] at H
                      have c57b0 : decide (t1177 < 0) = true := decide_eq_true c57
                      clear c57
                      obtain rfl := Option.some.inj H
                      go_wp2_with (first | ((with_reducible refine gate_callee (f := 21) rfl ?_); refine goesL_ (some 49) rfl rfl Try.func21 (by kernel_rfl) rfl #[.slice Ao35 t1145.length co35, .int .i64 1] rfl (by (try simp only [List.map_toArray, List.map_cons, List.map_nil]); first | done | rfl | (simp only [List.length_drop, List.length_take]; rfl)) ?_; (with_reducible refine (laws_markInt64S.calls kj17 (fun k_ => some k_ = (.slice Ao35 t1145.length co35 : Value).ownBlock) (.slice Ao35 t1145.length co35) t1145 1 t1161 t1162 w _ ?side1 ?side2 A47.out).mono ?_); (case side1 => repeat (first | (with_reducible first | exact HB.out | apply below_alloc | apply pw_below_drewN | apply below_drew1 | refine below_set ?_ GE1121.out) | exact HB.out)); (case side2 => exact Kd.R_tight rfl HO_8.out); rintro e w58 ⟨rfl, hy0, hb, hkp⟩; refine ⟨_, rfl, ?_⟩; have n0_ := Aside0.mk (Kd.R_mono (ok' := fun k_ => some k_ ≠ (.slice Ao35 t1145.length co35 : Value).ownBlock) (Kd.R_keptB (HO_6.out) hkp (fun k_ hk_ hs_ => (hk_) hs_)) (fun k_ hk_ => hk_.1)); have n1_ := Aside0.mk (Kd.R_reok rfl hy0 (fun k_ e_ => HO_8.out.1 k_ e_)); have n2_ := Aside0.mk (blk_kept (by (with_reducible repeat (first | refine blk_drewN ?_ _ | refine blk_drew ?_ | refine blk_alloc ?_ _)); exact BK1121.out) hkp (fun hs_ => (fun e_ => (Kd.R_ne HO_8.out BK1121.out (by decide)) e_) hs_)); have n3_ := Aside0.mk (hb); clear HO_6; clear HO_8; clear BK1121; clear HB; have HO_6 := n0_; have HO_8 := n1_; have BK1121 := n2_; have HB := n3_; clear n0_ n1_ n2_ n3_; (try clear hb); (try clear hkp); (try clear hy0)) | ((with_reducible refine gate_callee (f := 22) rfl ?_); refine goesL_ (some 52) rfl rfl Try.func22 (by kernel_rfl) rfl #[.slice Ao35 t1162.length co35, .int .i64 1] rfl (by (try simp only [List.map_toArray, List.map_cons, List.map_nil]); first | done | (rw [show t1162.length = t1145.length from (Kd.R_reads' HO_8.out).1.symm] <;> rfl) | rfl | (simp only [List.length_drop, List.length_take]; rfl)) ?_; (with_reducible refine (laws_heldInt64S.calls kj17 _ _ t1162 1 t1163 _ ?side1 ?side2 A48.out).mono ?_); (case side1 => repeat (first | exact (Kd.R_reads' HO_8.out).2.2 | (with_reducible refine Kd.C_alloc ?_ _) | (with_reducible refine Kd.C_drewN ?_ _) | (with_reducible refine Kd.C_drew ?_))); (case side2 => rw [show t1162.length = t1145.length from (Kd.R_reads' HO_8.out).1.symm]; exact (Kd.R_reads' HO_8.out).2.1); rintro e w' ⟨rfl, ⟨nd, rfl⟩⟩; refine ⟨_, rfl, ?_⟩; have hcz59_0 : w58.cell? ⟨gb1121, 0, none⟩ = some (.string a0_0) := (blk_cell BK1121.out 0).trans rfl; have hcz59_1 : w58.cell? ⟨gb1121, 1, none⟩ = some (.int .i64 a0_1) := (blk_cell BK1121.out 1).trans rfl; have hcz59_2 : w58.cell? ⟨gb1121, 2, none⟩ = some (.slice A0_2 l0_2.length c0_2) := (blk_cell BK1121.out 2).trans rfl; have hcz59_3 : w58.cell? ⟨gb1121, 3, none⟩ = some (.int .i64 a0_3) := (blk_cell BK1121.out 3).trans rfl; have hcz59_4 : w58.cell? ⟨gb1121, 4, none⟩ = some (.slice A0_4 l0_4.length c0_4) := (blk_cell BK1121.out 4).trans rfl; have hfz59_0 := blk_frozen BK1121.out 0; have hfz59_1 := blk_frozen BK1121.out 1; have hfz59_2 := blk_frozen BK1121.out 2; have hfz59_3 := blk_frozen BK1121.out 3; have hfz59_4 := blk_frozen BK1121.out 4) | ((with_reducible refine gate_callee (f := 14) rfl ?_); refine goesL_ (some 59) rfl rfl Try.func14 (by kernel_rfl) rfl #[.agg #[.string a0_0, .int .i64 a0_1, .slice A0_2 l0_2.length c0_2, .int .i64 a0_3, .slice A0_4 l0_4.length c0_4]] rfl (by (try simp only [List.map_toArray, List.map_cons, List.map_nil]); first | done | rfl | (simp only [List.length_drop, List.length_take]; rfl)) ?_; (with_reducible refine (laws_toFunc.calls kj17 a0_0 a0_1 _ _ l0_2 a0_3 _ _ l0_4 t1164 t1165 t1166 t1169 t1170 _ ?side1 ?side2 ?side3 ?side4 A52.out).mono ?_); (case side1 => repeat (first | exact (Kd.C_below HR0_2.out (by repeat (first | (with_reducible first | exact HB.out | apply below_alloc | apply pw_below_drewN | apply below_drew1 | refine below_set ?_ GE1121.out) | exact HB.out))) | (with_reducible refine Kd.C_alloc ?_ _) | (with_reducible refine Kd.C_drewN ?_ _) | (with_reducible refine Kd.C_drew ?_))); (case side2 => exact HC0_2.out); (case side3 => repeat (first | exact (Kd.C_below HR0_4.out (by repeat (first | (with_reducible first | exact HB.out | apply below_alloc | apply pw_below_drewN | apply below_drew1 | refine below_set ?_ GE1121.out) | exact HB.out))) | (with_reducible refine Kd.C_alloc ?_ _) | (with_reducible refine Kd.C_drewN ?_ _) | (with_reducible refine Kd.C_drew ?_))); (case side4 => exact HC0_4.out); rintro e w60 ⟨v1167, v1171, rfl, ho0, ho1, hb⟩; refine ⟨_, rfl, ?_⟩; have n0_ := Aside0.mk (Kd.R_elder' (by (with_reducible repeat (first | apply Kd.R_alloc | apply Kd.R_drewN | apply Kd.R_drew)); exact HO_6.out) (Kd.R_base ho0) hb); have n1_ := Aside0.mk (Kd.R_elder' (by (with_reducible repeat (first | apply Kd.R_alloc | apply Kd.R_drewN | apply Kd.R_drew)); exact HO_8.out) (Kd.R_base ho0) hb); have n2_ := Aside0.mk (Kd.R_lower (Kd.R_new' (Kd.R_new' ho0 (Kd.R_lt (by (with_reducible repeat (first | apply Kd.R_alloc | apply Kd.R_drewN | apply Kd.R_drew)); exact HO_6.out))) (Kd.R_lt (by (with_reducible repeat (first | apply Kd.R_alloc | apply Kd.R_drewN | apply Kd.R_drew)); exact HO_8.out))) (below_size (by repeat (first | (with_reducible first | exact HB.out | apply below_alloc | apply pw_below_drewN | apply below_drew1 | refine below_set ?_ GE1121.out) | exact HB.out)))); have n3_ := Aside0.mk (Kd.R_lower (Kd.R_new' (Kd.R_new' ho1 (Kd.R_lt (by (with_reducible repeat (first | apply Kd.R_alloc | apply Kd.R_drewN | apply Kd.R_drew)); exact HO_6.out))) (Kd.R_lt (by (with_reducible repeat (first | apply Kd.R_alloc | apply Kd.R_drewN | apply Kd.R_drew)); exact HO_8.out))) (below_size (by repeat (first | (with_reducible first | exact HB.out | apply below_alloc | apply pw_below_drewN | apply below_drew1 | refine below_set ?_ GE1121.out) | exact HB.out)))); have n4_ := Aside0.mk (blk_below (g := gb1121) (o := .cells #[.string a0_0, .int .i64 a0_1, .slice A0_2 l0_2.length c0_2, .int .i64 a0_3, .slice A0_4 l0_4.length c0_4] 25 (0, 0)) (by (with_reducible repeat (first | refine blk_drewN ?_ _ | refine blk_drew ?_ | refine blk_alloc ?_ _)); exact BK1121.out) hb); have n5_ := Aside0.mk (below_step (by repeat (first | (with_reducible first | exact HB.out | apply below_alloc | apply pw_below_drewN | apply below_drew1 | refine below_set ?_ GE1121.out) | exact HB.out)) hb); clear HO_6; clear HO_8; clear BK1121; clear HB; have HO_6 := n0_; have HO_8 := n1_; have HO1168 := n2_; have HO1172 := n3_; have BK1121 := n4_; have HB := n5_; clear n0_ n1_ n2_ n3_ n4_ n5_; (try clear hb); (try clear hb2); (try clear hk); (try clear hi); (try clear ho0); (try clear ho1); obtain ⟨Ao61, co61, eo61⟩ := Kd.R_slice HO1168.out; subst eo61; obtain ⟨Ao62, co62, eo62⟩ := Kd.R_slice HO1172.out; subst eo62) | ((with_reducible refine gate_callee (f := 24) rfl ?_); refine goesL_ (some 61) rfl rfl Try.func24 (by kernel_rfl) rfl #[.agg #[.string t1164, .int .i64 t1165, .slice Ao61 t1166.length co61, .int .i64 t1169, .slice Ao62 t1170.length co62], .int .i64 a1] rfl (by (try simp only [List.map_toArray, List.map_cons, List.map_nil]); first | done | rfl | (simp only [List.length_drop, List.length_take]; rfl)) ?_; (with_reducible refine (impl_PrevBlocks.calls kj17 t1164 t1165 _ _ t1166 t1169 _ _ t1170 a1 t1173 _ ?side1 ?side2 ?side3 ?side4 A53.out).mono ?_); (case side1 => repeat (first | exact (Kd.R_reads' HO1168.out).2.2 | (with_reducible refine Kd.C_alloc ?_ _) | (with_reducible refine Kd.C_drewN ?_ _) | (with_reducible refine Kd.C_drew ?_))); (case side2 => exact (Kd.R_reads' HO1168.out).2.1); (case side3 => repeat (first | exact (Kd.R_reads' HO1172.out).2.2 | (with_reducible refine Kd.C_alloc ?_ _) | (with_reducible refine Kd.C_drewN ?_ _) | (with_reducible refine Kd.C_drew ?_))); (case side4 => exact (Kd.R_reads' HO1172.out).2.1); rintro e w63 ⟨v1174, rfl, ho0, hb⟩; refine ⟨_, rfl, ?_⟩; have n0_ := Aside0.mk (Kd.R_elder' (by (with_reducible repeat (first | apply Kd.R_alloc | apply Kd.R_drewN | apply Kd.R_drew)); exact HO_6.out) (Kd.R_base ho0) hb); have n1_ := Aside0.mk (Kd.R_elder' (by (with_reducible repeat (first | apply Kd.R_alloc | apply Kd.R_drewN | apply Kd.R_drew)); exact HO_8.out) (Kd.R_base ho0) hb); have n2_ := Aside0.mk (Kd.R_elder' (by (with_reducible repeat (first | apply Kd.R_alloc | apply Kd.R_drewN | apply Kd.R_drew)); exact HO1168.out) (Kd.R_base ho0) hb); have n3_ := Aside0.mk (Kd.R_elder' (by (with_reducible repeat (first | apply Kd.R_alloc | apply Kd.R_drewN | apply Kd.R_drew)); exact HO1172.out) (Kd.R_base ho0) hb); have n4_ := Aside0.mk (Kd.R_lower (Kd.R_new' (Kd.R_new' (Kd.R_new' ho0 (Kd.R_lt (by (with_reducible repeat (first | apply Kd.R_alloc | apply Kd.R_drewN | apply Kd.R_drew)); exact HO_6.out))) (Kd.R_lt (by (with_reducible repeat (first | apply Kd.R_alloc | apply Kd.R_drewN | apply Kd.R_drew)); exact HO_8.out))) (Kd.R_lt (by (with_reducible repeat (first | apply Kd.R_alloc | apply Kd.R_drewN | apply Kd.R_drew)); exact HO1168.out))) (below_size (by repeat (first | (with_reducible first | exact HB.out | apply below_alloc | apply pw_below_drewN | apply below_drew1 | refine below_set ?_ GE1121.out) | exact HB.out)))); have n5_ := Aside0.mk (blk_below (g := gb1121) (o := .cells #[.string a0_0, .int .i64 a0_1, .slice A0_2 l0_2.length c0_2, .int .i64 a0_3, .slice A0_4 l0_4.length c0_4] 25 (0, 0)) (by (with_reducible repeat (first | refine blk_drewN ?_ _ | refine blk_drew ?_ | refine blk_alloc ?_ _)); exact BK1121.out) hb); have n6_ := Aside0.mk (below_step (by repeat (first | (with_reducible first | exact HB.out | apply below_alloc | apply pw_below_drewN | apply below_drew1 | refine below_set ?_ GE1121.out) | exact HB.out)) hb); clear HO_6; clear HO_8; clear HO1168; clear HO1172; clear BK1121; clear HB; have HO_6 := n0_; have HO_8 := n1_; have HO1168 := n2_; have HO1172 := n3_; have HO1175 := n4_; have BK1121 := n5_; have HB := n6_; clear n0_ n1_ n2_ n3_ n4_ n5_ n6_; (try clear hb); (try clear hb2); (try clear hk); (try clear hi); (try clear ho0); obtain ⟨Ao64, co64, eo64⟩ := Kd.R_slice HO1175.out; subst eo64) | ((with_reducible refine gate_callee (f := 19) rfl ?_); refine goesL_ (some 64) rfl rfl Try.func19 (by kernel_rfl) rfl #[.slice Ao64 t1173.length co64, .slice Ao36 t1132.length co36] rfl (by (try simp only [List.map_toArray, List.map_cons, List.map_nil]); first | done | rfl | (simp only [List.length_drop, List.length_take]; rfl)) ?_; (with_reducible refine (laws_eqInt64S.calls kj17 _ _ t1173 _ _ t1132 true _ ?side1 ?side2 ?side3 ?side4 A54.out).mono ?_); (case side1 => repeat (first | exact (Kd.R_reads' HO1175.out).2.2 | (with_reducible refine Kd.C_alloc ?_ _) | (with_reducible refine Kd.C_drewN ?_ _) | (with_reducible refine Kd.C_drew ?_))); (case side2 => exact (Kd.R_reads' HO1175.out).2.1); (case side3 => repeat (first | exact (Kd.R_reads' HO_6.out).2.2 | (with_reducible refine Kd.C_alloc ?_ _) | (with_reducible refine Kd.C_drewN ?_ _) | (with_reducible refine Kd.C_drew ?_))); (case side4 => exact (Kd.R_reads' HO_6.out).2.1); rintro e w' ⟨rfl, ⟨nd, rfl⟩⟩; refine ⟨_, rfl, ?_⟩) | ((with_reducible refine gate_callee (f := 22) rfl ?_); refine goesL_ (some 68) rfl rfl Try.func22 (by kernel_rfl) rfl #[.slice Ao35 t1162.length co35, .int .i64 1] rfl (by (try simp only [List.map_toArray, List.map_cons, List.map_nil]); first | done | (rw [show t1162.length = t1145.length from (Kd.R_reads' HO_8.out).1.symm] <;> rfl) | rfl | (simp only [List.length_drop, List.length_take]; rfl)) ?_; (with_reducible refine (laws_heldInt64S.calls kj17 _ _ t1162 1 t1177 _ ?side1 ?side2 A56.out).mono ?_); (case side1 => repeat (first | exact (Kd.R_reads' HO_8.out).2.2 | (with_reducible refine Kd.C_alloc ?_ _) | (with_reducible refine Kd.C_drewN ?_ _) | (with_reducible refine Kd.C_drew ?_))); (case side2 => rw [show t1162.length = t1145.length from (Kd.R_reads' HO_8.out).1.symm]; exact (Kd.R_reads' HO_8.out).2.1); rintro e w' ⟨rfl, ⟨nd, rfl⟩⟩; refine ⟨_, rfl, ?_⟩))
                      go_ret
                      exact ⟨by first | rfl | (simp [errW_none, errW_some] <;> rfl) | (simp [*, errW_none, errW_some] <;> rfl), by repeat (first | (with_reducible first | exact HB.out | apply below_alloc | apply pw_below_drewN | apply below_drew1 | refine below_set ?_ GE1121.out) | exact HB.out)⟩
                    · rw [if_neg c57] at H
                      have c57b0 : decide (t1177 < 0) = false := decide_eq_false c57
                      clear c57
                      by_cases c65 : t1177 = t1161
                      · rw [if_pos c65] at H
                        have c65b0 : (t1177 == t1161) = true := beq_iff_eq.mpr c65
                        have c65b1 : (t1177 != t1161) = false := bne_eq_false_iff_eq.mpr c65
                        clear c65
                        obtain rfl := Option.some.inj H
                        go_wp2_with (first | ((with_reducible refine gate_callee (f := 21) rfl ?_); refine goesL_ (some 49) rfl rfl Try.func21 (by kernel_rfl) rfl #[.slice Ao35 t1145.length co35, .int .i64 1] rfl (by (try simp only [List.map_toArray, List.map_cons, List.map_nil]); first | done | rfl | (simp only [List.length_drop, List.length_take]; rfl)) ?_; (with_reducible refine (laws_markInt64S.calls kj17 (fun k_ => some k_ = (.slice Ao35 t1145.length co35 : Value).ownBlock) (.slice Ao35 t1145.length co35) t1145 1 t1161 t1162 w _ ?side1 ?side2 A47.out).mono ?_); (case side1 => repeat (first | (with_reducible first | exact HB.out | apply below_alloc | apply pw_below_drewN | apply below_drew1 | refine below_set ?_ GE1121.out) | exact HB.out)); (case side2 => exact Kd.R_tight rfl HO_8.out); rintro e w66 ⟨rfl, hy0, hb, hkp⟩; refine ⟨_, rfl, ?_⟩; have n0_ := Aside0.mk (Kd.R_mono (ok' := fun k_ => some k_ ≠ (.slice Ao35 t1145.length co35 : Value).ownBlock) (Kd.R_keptB (HO_6.out) hkp (fun k_ hk_ hs_ => (hk_) hs_)) (fun k_ hk_ => hk_.1)); have n1_ := Aside0.mk (Kd.R_reok rfl hy0 (fun k_ e_ => HO_8.out.1 k_ e_)); have n2_ := Aside0.mk (blk_kept (by (with_reducible repeat (first | refine blk_drewN ?_ _ | refine blk_drew ?_ | refine blk_alloc ?_ _)); exact BK1121.out) hkp (fun hs_ => (fun e_ => (Kd.R_ne HO_8.out BK1121.out (by decide)) e_) hs_)); have n3_ := Aside0.mk (hb); clear HO_6; clear HO_8; clear BK1121; clear HB; have HO_6 := n0_; have HO_8 := n1_; have BK1121 := n2_; have HB := n3_; clear n0_ n1_ n2_ n3_; (try clear hb); (try clear hkp); (try clear hy0)) | ((with_reducible refine gate_callee (f := 22) rfl ?_); refine goesL_ (some 52) rfl rfl Try.func22 (by kernel_rfl) rfl #[.slice Ao35 t1162.length co35, .int .i64 1] rfl (by (try simp only [List.map_toArray, List.map_cons, List.map_nil]); first | done | (rw [show t1162.length = t1145.length from (Kd.R_reads' HO_8.out).1.symm] <;> rfl) | rfl | (simp only [List.length_drop, List.length_take]; rfl)) ?_; (with_reducible refine (laws_heldInt64S.calls kj17 _ _ t1162 1 t1163 _ ?side1 ?side2 A48.out).mono ?_); (case side1 => repeat (first | exact (Kd.R_reads' HO_8.out).2.2 | (with_reducible refine Kd.C_alloc ?_ _) | (with_reducible refine Kd.C_drewN ?_ _) | (with_reducible refine Kd.C_drew ?_))); (case side2 => rw [show t1162.length = t1145.length from (Kd.R_reads' HO_8.out).1.symm]; exact (Kd.R_reads' HO_8.out).2.1); rintro e w' ⟨rfl, ⟨nd, rfl⟩⟩; refine ⟨_, rfl, ?_⟩; have hcz67_0 : w66.cell? ⟨gb1121, 0, none⟩ = some (.string a0_0) := (blk_cell BK1121.out 0).trans rfl; have hcz67_1 : w66.cell? ⟨gb1121, 1, none⟩ = some (.int .i64 a0_1) := (blk_cell BK1121.out 1).trans rfl; have hcz67_2 : w66.cell? ⟨gb1121, 2, none⟩ = some (.slice A0_2 l0_2.length c0_2) := (blk_cell BK1121.out 2).trans rfl; have hcz67_3 : w66.cell? ⟨gb1121, 3, none⟩ = some (.int .i64 a0_3) := (blk_cell BK1121.out 3).trans rfl; have hcz67_4 : w66.cell? ⟨gb1121, 4, none⟩ = some (.slice A0_4 l0_4.length c0_4) := (blk_cell BK1121.out 4).trans rfl; have hfz67_0 := blk_frozen BK1121.out 0; have hfz67_1 := blk_frozen BK1121.out 1; have hfz67_2 := blk_frozen BK1121.out 2; have hfz67_3 := blk_frozen BK1121.out 3; have hfz67_4 := blk_frozen BK1121.out 4) | ((with_reducible refine gate_callee (f := 14) rfl ?_); refine goesL_ (some 59) rfl rfl Try.func14 (by kernel_rfl) rfl #[.agg #[.string a0_0, .int .i64 a0_1, .slice A0_2 l0_2.length c0_2, .int .i64 a0_3, .slice A0_4 l0_4.length c0_4]] rfl (by (try simp only [List.map_toArray, List.map_cons, List.map_nil]); first | done | rfl | (simp only [List.length_drop, List.length_take]; rfl)) ?_; (with_reducible refine (laws_toFunc.calls kj17 a0_0 a0_1 _ _ l0_2 a0_3 _ _ l0_4 t1164 t1165 t1166 t1169 t1170 _ ?side1 ?side2 ?side3 ?side4 A52.out).mono ?_); (case side1 => repeat (first | exact (Kd.C_below HR0_2.out (by repeat (first | (with_reducible first | exact HB.out | apply below_alloc | apply pw_below_drewN | apply below_drew1 | refine below_set ?_ GE1121.out) | exact HB.out))) | (with_reducible refine Kd.C_alloc ?_ _) | (with_reducible refine Kd.C_drewN ?_ _) | (with_reducible refine Kd.C_drew ?_))); (case side2 => exact HC0_2.out); (case side3 => repeat (first | exact (Kd.C_below HR0_4.out (by repeat (first | (with_reducible first | exact HB.out | apply below_alloc | apply pw_below_drewN | apply below_drew1 | refine below_set ?_ GE1121.out) | exact HB.out))) | (with_reducible refine Kd.C_alloc ?_ _) | (with_reducible refine Kd.C_drewN ?_ _) | (with_reducible refine Kd.C_drew ?_))); (case side4 => exact HC0_4.out); rintro e w68 ⟨v1167, v1171, rfl, ho0, ho1, hb⟩; refine ⟨_, rfl, ?_⟩; have n0_ := Aside0.mk (Kd.R_elder' (by (with_reducible repeat (first | apply Kd.R_alloc | apply Kd.R_drewN | apply Kd.R_drew)); exact HO_6.out) (Kd.R_base ho0) hb); have n1_ := Aside0.mk (Kd.R_elder' (by (with_reducible repeat (first | apply Kd.R_alloc | apply Kd.R_drewN | apply Kd.R_drew)); exact HO_8.out) (Kd.R_base ho0) hb); have n2_ := Aside0.mk (Kd.R_lower (Kd.R_new' (Kd.R_new' ho0 (Kd.R_lt (by (with_reducible repeat (first | apply Kd.R_alloc | apply Kd.R_drewN | apply Kd.R_drew)); exact HO_6.out))) (Kd.R_lt (by (with_reducible repeat (first | apply Kd.R_alloc | apply Kd.R_drewN | apply Kd.R_drew)); exact HO_8.out))) (below_size (by repeat (first | (with_reducible first | exact HB.out | apply below_alloc | apply pw_below_drewN | apply below_drew1 | refine below_set ?_ GE1121.out) | exact HB.out)))); have n3_ := Aside0.mk (Kd.R_lower (Kd.R_new' (Kd.R_new' ho1 (Kd.R_lt (by (with_reducible repeat (first | apply Kd.R_alloc | apply Kd.R_drewN | apply Kd.R_drew)); exact HO_6.out))) (Kd.R_lt (by (with_reducible repeat (first | apply Kd.R_alloc | apply Kd.R_drewN | apply Kd.R_drew)); exact HO_8.out))) (below_size (by repeat (first | (with_reducible first | exact HB.out | apply below_alloc | apply pw_below_drewN | apply below_drew1 | refine below_set ?_ GE1121.out) | exact HB.out)))); have n4_ := Aside0.mk (blk_below (g := gb1121) (o := .cells #[.string a0_0, .int .i64 a0_1, .slice A0_2 l0_2.length c0_2, .int .i64 a0_3, .slice A0_4 l0_4.length c0_4] 25 (0, 0)) (by (with_reducible repeat (first | refine blk_drewN ?_ _ | refine blk_drew ?_ | refine blk_alloc ?_ _)); exact BK1121.out) hb); have n5_ := Aside0.mk (below_step (by repeat (first | (with_reducible first | exact HB.out | apply below_alloc | apply pw_below_drewN | apply below_drew1 | refine below_set ?_ GE1121.out) | exact HB.out)) hb); clear HO_6; clear HO_8; clear BK1121; clear HB; have HO_6 := n0_; have HO_8 := n1_; have HO1168 := n2_; have HO1172 := n3_; have BK1121 := n4_; have HB := n5_; clear n0_ n1_ n2_ n3_ n4_ n5_; (try clear hb); (try clear hb2); (try clear hk); (try clear hi); (try clear ho0); (try clear ho1); obtain ⟨Ao69, co69, eo69⟩ := Kd.R_slice HO1168.out; subst eo69; obtain ⟨Ao70, co70, eo70⟩ := Kd.R_slice HO1172.out; subst eo70) | ((with_reducible refine gate_callee (f := 24) rfl ?_); refine goesL_ (some 61) rfl rfl Try.func24 (by kernel_rfl) rfl #[.agg #[.string t1164, .int .i64 t1165, .slice Ao69 t1166.length co69, .int .i64 t1169, .slice Ao70 t1170.length co70], .int .i64 a1] rfl (by (try simp only [List.map_toArray, List.map_cons, List.map_nil]); first | done | rfl | (simp only [List.length_drop, List.length_take]; rfl)) ?_; (with_reducible refine (impl_PrevBlocks.calls kj17 t1164 t1165 _ _ t1166 t1169 _ _ t1170 a1 t1173 _ ?side1 ?side2 ?side3 ?side4 A53.out).mono ?_); (case side1 => repeat (first | exact (Kd.R_reads' HO1168.out).2.2 | (with_reducible refine Kd.C_alloc ?_ _) | (with_reducible refine Kd.C_drewN ?_ _) | (with_reducible refine Kd.C_drew ?_))); (case side2 => exact (Kd.R_reads' HO1168.out).2.1); (case side3 => repeat (first | exact (Kd.R_reads' HO1172.out).2.2 | (with_reducible refine Kd.C_alloc ?_ _) | (with_reducible refine Kd.C_drewN ?_ _) | (with_reducible refine Kd.C_drew ?_))); (case side4 => exact (Kd.R_reads' HO1172.out).2.1); rintro e w71 ⟨v1174, rfl, ho0, hb⟩; refine ⟨_, rfl, ?_⟩; have n0_ := Aside0.mk (Kd.R_elder' (by (with_reducible repeat (first | apply Kd.R_alloc | apply Kd.R_drewN | apply Kd.R_drew)); exact HO_6.out) (Kd.R_base ho0) hb); have n1_ := Aside0.mk (Kd.R_elder' (by (with_reducible repeat (first | apply Kd.R_alloc | apply Kd.R_drewN | apply Kd.R_drew)); exact HO_8.out) (Kd.R_base ho0) hb); have n2_ := Aside0.mk (Kd.R_elder' (by (with_reducible repeat (first | apply Kd.R_alloc | apply Kd.R_drewN | apply Kd.R_drew)); exact HO1168.out) (Kd.R_base ho0) hb); have n3_ := Aside0.mk (Kd.R_elder' (by (with_reducible repeat (first | apply Kd.R_alloc | apply Kd.R_drewN | apply Kd.R_drew)); exact HO1172.out) (Kd.R_base ho0) hb); have n4_ := Aside0.mk (Kd.R_lower (Kd.R_new' (Kd.R_new' (Kd.R_new' ho0 (Kd.R_lt (by (with_reducible repeat (first | apply Kd.R_alloc | apply Kd.R_drewN | apply Kd.R_drew)); exact HO_6.out))) (Kd.R_lt (by (with_reducible repeat (first | apply Kd.R_alloc | apply Kd.R_drewN | apply Kd.R_drew)); exact HO_8.out))) (Kd.R_lt (by (with_reducible repeat (first | apply Kd.R_alloc | apply Kd.R_drewN | apply Kd.R_drew)); exact HO1168.out))) (below_size (by repeat (first | (with_reducible first | exact HB.out | apply below_alloc | apply pw_below_drewN | apply below_drew1 | refine below_set ?_ GE1121.out) | exact HB.out)))); have n5_ := Aside0.mk (blk_below (g := gb1121) (o := .cells #[.string a0_0, .int .i64 a0_1, .slice A0_2 l0_2.length c0_2, .int .i64 a0_3, .slice A0_4 l0_4.length c0_4] 25 (0, 0)) (by (with_reducible repeat (first | refine blk_drewN ?_ _ | refine blk_drew ?_ | refine blk_alloc ?_ _)); exact BK1121.out) hb); have n6_ := Aside0.mk (below_step (by repeat (first | (with_reducible first | exact HB.out | apply below_alloc | apply pw_below_drewN | apply below_drew1 | refine below_set ?_ GE1121.out) | exact HB.out)) hb); clear HO_6; clear HO_8; clear HO1168; clear HO1172; clear BK1121; clear HB; have HO_6 := n0_; have HO_8 := n1_; have HO1168 := n2_; have HO1172 := n3_; have HO1175 := n4_; have BK1121 := n5_; have HB := n6_; clear n0_ n1_ n2_ n3_ n4_ n5_ n6_; (try clear hb); (try clear hb2); (try clear hk); (try clear hi); (try clear ho0); obtain ⟨Ao72, co72, eo72⟩ := Kd.R_slice HO1175.out; subst eo72) | ((with_reducible refine gate_callee (f := 19) rfl ?_); refine goesL_ (some 64) rfl rfl Try.func19 (by kernel_rfl) rfl #[.slice Ao72 t1173.length co72, .slice Ao36 t1132.length co36] rfl (by (try simp only [List.map_toArray, List.map_cons, List.map_nil]); first | done | rfl | (simp only [List.length_drop, List.length_take]; rfl)) ?_; (with_reducible refine (laws_eqInt64S.calls kj17 _ _ t1173 _ _ t1132 true _ ?side1 ?side2 ?side3 ?side4 A54.out).mono ?_); (case side1 => repeat (first | exact (Kd.R_reads' HO1175.out).2.2 | (with_reducible refine Kd.C_alloc ?_ _) | (with_reducible refine Kd.C_drewN ?_ _) | (with_reducible refine Kd.C_drew ?_))); (case side2 => exact (Kd.R_reads' HO1175.out).2.1); (case side3 => repeat (first | exact (Kd.R_reads' HO_6.out).2.2 | (with_reducible refine Kd.C_alloc ?_ _) | (with_reducible refine Kd.C_drewN ?_ _) | (with_reducible refine Kd.C_drew ?_))); (case side4 => exact (Kd.R_reads' HO_6.out).2.1); rintro e w' ⟨rfl, ⟨nd, rfl⟩⟩; refine ⟨_, rfl, ?_⟩) | ((with_reducible refine gate_callee (f := 22) rfl ?_); refine goesL_ (some 68) rfl rfl Try.func22 (by kernel_rfl) rfl #[.slice Ao35 t1162.length co35, .int .i64 1] rfl (by (try simp only [List.map_toArray, List.map_cons, List.map_nil]); first | done | (rw [show t1162.length = t1145.length from (Kd.R_reads' HO_8.out).1.symm] <;> rfl) | rfl | (simp only [List.length_drop, List.length_take]; rfl)) ?_; (with_reducible refine (laws_heldInt64S.calls kj17 _ _ t1162 1 t1177 _ ?side1 ?side2 A56.out).mono ?_); (case side1 => repeat (first | exact (Kd.R_reads' HO_8.out).2.2 | (with_reducible refine Kd.C_alloc ?_ _) | (with_reducible refine Kd.C_drewN ?_ _) | (with_reducible refine Kd.C_drew ?_))); (case side2 => rw [show t1162.length = t1145.length from (Kd.R_reads' HO_8.out).1.symm]; exact (Kd.R_reads' HO_8.out).2.1); rintro e w' ⟨rfl, ⟨nd, rfl⟩⟩; refine ⟨_, rfl, ?_⟩))
                        go_ret
                        exact ⟨by first | rfl | (simp [errW_none, errW_some] <;> rfl) | (simp [*, errW_none, errW_some] <;> rfl), by repeat (first | (with_reducible first | exact HB.out | apply below_alloc | apply pw_below_drewN | apply below_drew1 | refine below_set ?_ GE1121.out) | exact HB.out)⟩
                      · rw [if_neg c65] at H
                        have c65b0 : (t1177 == t1161) = false := beq_eq_false_iff_ne.mpr c65
                        have c65b1 : (t1177 != t1161) = true := bne_iff_ne.mpr c65
                        obtain rfl := Option.some.inj H
                        go_wp2_with (first | ((with_reducible refine gate_callee (f := 21) rfl ?_); refine goesL_ (some 49) rfl rfl Try.func21 (by kernel_rfl) rfl #[.slice Ao35 t1145.length co35, .int .i64 1] rfl (by (try simp only [List.map_toArray, List.map_cons, List.map_nil]); first | done | rfl | (simp only [List.length_drop, List.length_take]; rfl)) ?_; (with_reducible refine (laws_markInt64S.calls kj17 (fun k_ => some k_ = (.slice Ao35 t1145.length co35 : Value).ownBlock) (.slice Ao35 t1145.length co35) t1145 1 t1161 t1162 w _ ?side1 ?side2 A47.out).mono ?_); (case side1 => repeat (first | (with_reducible first | exact HB.out | apply below_alloc | apply pw_below_drewN | apply below_drew1 | refine below_set ?_ GE1121.out) | exact HB.out)); (case side2 => exact Kd.R_tight rfl HO_8.out); rintro e w73 ⟨rfl, hy0, hb, hkp⟩; refine ⟨_, rfl, ?_⟩; have n0_ := Aside0.mk (Kd.R_mono (ok' := fun k_ => some k_ ≠ (.slice Ao35 t1145.length co35 : Value).ownBlock) (Kd.R_keptB (HO_6.out) hkp (fun k_ hk_ hs_ => (hk_) hs_)) (fun k_ hk_ => hk_.1)); have n1_ := Aside0.mk (Kd.R_reok rfl hy0 (fun k_ e_ => HO_8.out.1 k_ e_)); have n2_ := Aside0.mk (blk_kept (by (with_reducible repeat (first | refine blk_drewN ?_ _ | refine blk_drew ?_ | refine blk_alloc ?_ _)); exact BK1121.out) hkp (fun hs_ => (fun e_ => (Kd.R_ne HO_8.out BK1121.out (by decide)) e_) hs_)); have n3_ := Aside0.mk (hb); clear HO_6; clear HO_8; clear BK1121; clear HB; have HO_6 := n0_; have HO_8 := n1_; have BK1121 := n2_; have HB := n3_; clear n0_ n1_ n2_ n3_; (try clear hb); (try clear hkp); (try clear hy0)) | ((with_reducible refine gate_callee (f := 22) rfl ?_); refine goesL_ (some 52) rfl rfl Try.func22 (by kernel_rfl) rfl #[.slice Ao35 t1162.length co35, .int .i64 1] rfl (by (try simp only [List.map_toArray, List.map_cons, List.map_nil]); first | done | (rw [show t1162.length = t1145.length from (Kd.R_reads' HO_8.out).1.symm] <;> rfl) | rfl | (simp only [List.length_drop, List.length_take]; rfl)) ?_; (with_reducible refine (laws_heldInt64S.calls kj17 _ _ t1162 1 t1163 _ ?side1 ?side2 A48.out).mono ?_); (case side1 => repeat (first | exact (Kd.R_reads' HO_8.out).2.2 | (with_reducible refine Kd.C_alloc ?_ _) | (with_reducible refine Kd.C_drewN ?_ _) | (with_reducible refine Kd.C_drew ?_))); (case side2 => rw [show t1162.length = t1145.length from (Kd.R_reads' HO_8.out).1.symm]; exact (Kd.R_reads' HO_8.out).2.1); rintro e w' ⟨rfl, ⟨nd, rfl⟩⟩; refine ⟨_, rfl, ?_⟩; have hcz74_0 : w73.cell? ⟨gb1121, 0, none⟩ = some (.string a0_0) := (blk_cell BK1121.out 0).trans rfl; have hcz74_1 : w73.cell? ⟨gb1121, 1, none⟩ = some (.int .i64 a0_1) := (blk_cell BK1121.out 1).trans rfl; have hcz74_2 : w73.cell? ⟨gb1121, 2, none⟩ = some (.slice A0_2 l0_2.length c0_2) := (blk_cell BK1121.out 2).trans rfl; have hcz74_3 : w73.cell? ⟨gb1121, 3, none⟩ = some (.int .i64 a0_3) := (blk_cell BK1121.out 3).trans rfl; have hcz74_4 : w73.cell? ⟨gb1121, 4, none⟩ = some (.slice A0_4 l0_4.length c0_4) := (blk_cell BK1121.out 4).trans rfl; have hfz74_0 := blk_frozen BK1121.out 0; have hfz74_1 := blk_frozen BK1121.out 1; have hfz74_2 := blk_frozen BK1121.out 2; have hfz74_3 := blk_frozen BK1121.out 3; have hfz74_4 := blk_frozen BK1121.out 4) | ((with_reducible refine gate_callee (f := 14) rfl ?_); refine goesL_ (some 59) rfl rfl Try.func14 (by kernel_rfl) rfl #[.agg #[.string a0_0, .int .i64 a0_1, .slice A0_2 l0_2.length c0_2, .int .i64 a0_3, .slice A0_4 l0_4.length c0_4]] rfl (by (try simp only [List.map_toArray, List.map_cons, List.map_nil]); first | done | rfl | (simp only [List.length_drop, List.length_take]; rfl)) ?_; (with_reducible refine (laws_toFunc.calls kj17 a0_0 a0_1 _ _ l0_2 a0_3 _ _ l0_4 t1164 t1165 t1166 t1169 t1170 _ ?side1 ?side2 ?side3 ?side4 A52.out).mono ?_); (case side1 => repeat (first | exact (Kd.C_below HR0_2.out (by repeat (first | (with_reducible first | exact HB.out | apply below_alloc | apply pw_below_drewN | apply below_drew1 | refine below_set ?_ GE1121.out) | exact HB.out))) | (with_reducible refine Kd.C_alloc ?_ _) | (with_reducible refine Kd.C_drewN ?_ _) | (with_reducible refine Kd.C_drew ?_))); (case side2 => exact HC0_2.out); (case side3 => repeat (first | exact (Kd.C_below HR0_4.out (by repeat (first | (with_reducible first | exact HB.out | apply below_alloc | apply pw_below_drewN | apply below_drew1 | refine below_set ?_ GE1121.out) | exact HB.out))) | (with_reducible refine Kd.C_alloc ?_ _) | (with_reducible refine Kd.C_drewN ?_ _) | (with_reducible refine Kd.C_drew ?_))); (case side4 => exact HC0_4.out); rintro e w75 ⟨v1167, v1171, rfl, ho0, ho1, hb⟩; refine ⟨_, rfl, ?_⟩; have n0_ := Aside0.mk (Kd.R_elder' (by (with_reducible repeat (first | apply Kd.R_alloc | apply Kd.R_drewN | apply Kd.R_drew)); exact HO_6.out) (Kd.R_base ho0) hb); have n1_ := Aside0.mk (Kd.R_elder' (by (with_reducible repeat (first | apply Kd.R_alloc | apply Kd.R_drewN | apply Kd.R_drew)); exact HO_8.out) (Kd.R_base ho0) hb); have n2_ := Aside0.mk (Kd.R_lower (Kd.R_new' (Kd.R_new' ho0 (Kd.R_lt (by (with_reducible repeat (first | apply Kd.R_alloc | apply Kd.R_drewN | apply Kd.R_drew)); exact HO_6.out))) (Kd.R_lt (by (with_reducible repeat (first | apply Kd.R_alloc | apply Kd.R_drewN | apply Kd.R_drew)); exact HO_8.out))) (below_size (by repeat (first | (with_reducible first | exact HB.out | apply below_alloc | apply pw_below_drewN | apply below_drew1 | refine below_set ?_ GE1121.out) | exact HB.out)))); have n3_ := Aside0.mk (Kd.R_lower (Kd.R_new' (Kd.R_new' ho1 (Kd.R_lt (by (with_reducible repeat (first | apply Kd.R_alloc | apply Kd.R_drewN | apply Kd.R_drew)); exact HO_6.out))) (Kd.R_lt (by (with_reducible repeat (first | apply Kd.R_alloc | apply Kd.R_drewN | apply Kd.R_drew)); exact HO_8.out))) (below_size (by repeat (first | (with_reducible first | exact HB.out | apply below_alloc | apply pw_below_drewN | apply below_drew1 | refine below_set ?_ GE1121.out) | exact HB.out)))); have n4_ := Aside0.mk (blk_below (g := gb1121) (o := .cells #[.string a0_0, .int .i64 a0_1, .slice A0_2 l0_2.length c0_2, .int .i64 a0_3, .slice A0_4 l0_4.length c0_4] 25 (0, 0)) (by (with_reducible repeat (first | refine blk_drewN ?_ _ | refine blk_drew ?_ | refine blk_alloc ?_ _)); exact BK1121.out) hb); have n5_ := Aside0.mk (below_step (by repeat (first | (with_reducible first | exact HB.out | apply below_alloc | apply pw_below_drewN | apply below_drew1 | refine below_set ?_ GE1121.out) | exact HB.out)) hb); clear HO_6; clear HO_8; clear BK1121; clear HB; have HO_6 := n0_; have HO_8 := n1_; have HO1168 := n2_; have HO1172 := n3_; have BK1121 := n4_; have HB := n5_; clear n0_ n1_ n2_ n3_ n4_ n5_; (try clear hb); (try clear hb2); (try clear hk); (try clear hi); (try clear ho0); (try clear ho1); obtain ⟨Ao76, co76, eo76⟩ := Kd.R_slice HO1168.out; subst eo76; obtain ⟨Ao77, co77, eo77⟩ := Kd.R_slice HO1172.out; subst eo77) | ((with_reducible refine gate_callee (f := 24) rfl ?_); refine goesL_ (some 61) rfl rfl Try.func24 (by kernel_rfl) rfl #[.agg #[.string t1164, .int .i64 t1165, .slice Ao76 t1166.length co76, .int .i64 t1169, .slice Ao77 t1170.length co77], .int .i64 a1] rfl (by (try simp only [List.map_toArray, List.map_cons, List.map_nil]); first | done | rfl | (simp only [List.length_drop, List.length_take]; rfl)) ?_; (with_reducible refine (impl_PrevBlocks.calls kj17 t1164 t1165 _ _ t1166 t1169 _ _ t1170 a1 t1173 _ ?side1 ?side2 ?side3 ?side4 A53.out).mono ?_); (case side1 => repeat (first | exact (Kd.R_reads' HO1168.out).2.2 | (with_reducible refine Kd.C_alloc ?_ _) | (with_reducible refine Kd.C_drewN ?_ _) | (with_reducible refine Kd.C_drew ?_))); (case side2 => exact (Kd.R_reads' HO1168.out).2.1); (case side3 => repeat (first | exact (Kd.R_reads' HO1172.out).2.2 | (with_reducible refine Kd.C_alloc ?_ _) | (with_reducible refine Kd.C_drewN ?_ _) | (with_reducible refine Kd.C_drew ?_))); (case side4 => exact (Kd.R_reads' HO1172.out).2.1); rintro e w78 ⟨v1174, rfl, ho0, hb⟩; refine ⟨_, rfl, ?_⟩; have n0_ := Aside0.mk (Kd.R_elder' (by (with_reducible repeat (first | apply Kd.R_alloc | apply Kd.R_drewN | apply Kd.R_drew)); exact HO_6.out) (Kd.R_base ho0) hb); have n1_ := Aside0.mk (Kd.R_elder' (by (with_reducible repeat (first | apply Kd.R_alloc | apply Kd.R_drewN | apply Kd.R_drew)); exact HO_8.out) (Kd.R_base ho0) hb); have n2_ := Aside0.mk (Kd.R_elder' (by (with_reducible repeat (first | apply Kd.R_alloc | apply Kd.R_drewN | apply Kd.R_drew)); exact HO1168.out) (Kd.R_base ho0) hb); have n3_ := Aside0.mk (Kd.R_elder' (by (with_reducible repeat (first | apply Kd.R_alloc | apply Kd.R_drewN | apply Kd.R_drew)); exact HO1172.out) (Kd.R_base ho0) hb); have n4_ := Aside0.mk (Kd.R_lower (Kd.R_new' (Kd.R_new' (Kd.R_new' ho0 (Kd.R_lt (by (with_reducible repeat (first | apply Kd.R_alloc | apply Kd.R_drewN | apply Kd.R_drew)); exact HO_6.out))) (Kd.R_lt (by (with_reducible repeat (first | apply Kd.R_alloc | apply Kd.R_drewN | apply Kd.R_drew)); exact HO_8.out))) (Kd.R_lt (by (with_reducible repeat (first | apply Kd.R_alloc | apply Kd.R_drewN | apply Kd.R_drew)); exact HO1168.out))) (below_size (by repeat (first | (with_reducible first | exact HB.out | apply below_alloc | apply pw_below_drewN | apply below_drew1 | refine below_set ?_ GE1121.out) | exact HB.out)))); have n5_ := Aside0.mk (blk_below (g := gb1121) (o := .cells #[.string a0_0, .int .i64 a0_1, .slice A0_2 l0_2.length c0_2, .int .i64 a0_3, .slice A0_4 l0_4.length c0_4] 25 (0, 0)) (by (with_reducible repeat (first | refine blk_drewN ?_ _ | refine blk_drew ?_ | refine blk_alloc ?_ _)); exact BK1121.out) hb); have n6_ := Aside0.mk (below_step (by repeat (first | (with_reducible first | exact HB.out | apply below_alloc | apply pw_below_drewN | apply below_drew1 | refine below_set ?_ GE1121.out) | exact HB.out)) hb); clear HO_6; clear HO_8; clear HO1168; clear HO1172; clear BK1121; clear HB; have HO_6 := n0_; have HO_8 := n1_; have HO1168 := n2_; have HO1172 := n3_; have HO1175 := n4_; have BK1121 := n5_; have HB := n6_; clear n0_ n1_ n2_ n3_ n4_ n5_ n6_; (try clear hb); (try clear hb2); (try clear hk); (try clear hi); (try clear ho0); obtain ⟨Ao79, co79, eo79⟩ := Kd.R_slice HO1175.out; subst eo79) | ((with_reducible refine gate_callee (f := 19) rfl ?_); refine goesL_ (some 64) rfl rfl Try.func19 (by kernel_rfl) rfl #[.slice Ao79 t1173.length co79, .slice Ao36 t1132.length co36] rfl (by (try simp only [List.map_toArray, List.map_cons, List.map_nil]); first | done | rfl | (simp only [List.length_drop, List.length_take]; rfl)) ?_; (with_reducible refine (laws_eqInt64S.calls kj17 _ _ t1173 _ _ t1132 true _ ?side1 ?side2 ?side3 ?side4 A54.out).mono ?_); (case side1 => repeat (first | exact (Kd.R_reads' HO1175.out).2.2 | (with_reducible refine Kd.C_alloc ?_ _) | (with_reducible refine Kd.C_drewN ?_ _) | (with_reducible refine Kd.C_drew ?_))); (case side2 => exact (Kd.R_reads' HO1175.out).2.1); (case side3 => repeat (first | exact (Kd.R_reads' HO_6.out).2.2 | (with_reducible refine Kd.C_alloc ?_ _) | (with_reducible refine Kd.C_drewN ?_ _) | (with_reducible refine Kd.C_drew ?_))); (case side4 => exact (Kd.R_reads' HO_6.out).2.1); rintro e w' ⟨rfl, ⟨nd, rfl⟩⟩; refine ⟨_, rfl, ?_⟩) | ((with_reducible refine gate_callee (f := 22) rfl ?_); refine goesL_ (some 68) rfl rfl Try.func22 (by kernel_rfl) rfl #[.slice Ao35 t1162.length co35, .int .i64 1] rfl (by (try simp only [List.map_toArray, List.map_cons, List.map_nil]); first | done | (rw [show t1162.length = t1145.length from (Kd.R_reads' HO_8.out).1.symm] <;> rfl) | rfl | (simp only [List.length_drop, List.length_take]; rfl)) ?_; (with_reducible refine (laws_heldInt64S.calls kj17 _ _ t1162 1 t1177 _ ?side1 ?side2 A56.out).mono ?_); (case side1 => repeat (first | exact (Kd.R_reads' HO_8.out).2.2 | (with_reducible refine Kd.C_alloc ?_ _) | (with_reducible refine Kd.C_drewN ?_ _) | (with_reducible refine Kd.C_drew ?_))); (case side2 => rw [show t1162.length = t1145.length from (Kd.R_reads' HO_8.out).1.symm]; exact (Kd.R_reads' HO_8.out).2.1); rintro e w' ⟨rfl, ⟨nd, rfl⟩⟩; refine ⟨_, rfl, ?_⟩))
                        go_ret
                        exact ⟨by first | rfl | (simp [errW_none, errW_some] <;> rfl) | (simp [*, errW_none, errW_some] <;> rfl), by repeat (first | (with_reducible first | exact HB.out | apply below_alloc | apply pw_below_drewN | apply below_drew1 | refine below_set ?_ GE1121.out) | exact HB.out)⟩
                  · replace c55 := Bool.eq_false_iff.mpr c55
                    subst c55
                    have H1 : (some false) = some r := by rw [if_neg (show ¬ (false = true) by decide)] at H; exact H
                    clear H
                    have H := H1
                    clear H1
                    obtain rfl := Option.some.inj H
                    go_wp2_with (first | ((with_reducible refine gate_callee (f := 21) rfl ?_); refine goesL_ (some 49) rfl rfl Try.func21 (by kernel_rfl) rfl #[.slice Ao35 t1145.length co35, .int .i64 1] rfl (by (try simp only [List.map_toArray, List.map_cons, List.map_nil]); first | done | rfl | (simp only [List.length_drop, List.length_take]; rfl)) ?_; (with_reducible refine (laws_markInt64S.calls kj17 (fun k_ => some k_ = (.slice Ao35 t1145.length co35 : Value).ownBlock) (.slice Ao35 t1145.length co35) t1145 1 t1161 t1162 w _ ?side1 ?side2 A47.out).mono ?_); (case side1 => repeat (first | (with_reducible first | exact HB.out | apply below_alloc | apply pw_below_drewN | apply below_drew1 | refine below_set ?_ GE1121.out) | exact HB.out)); (case side2 => exact Kd.R_tight rfl HO_8.out); rintro e w80 ⟨rfl, hy0, hb, hkp⟩; refine ⟨_, rfl, ?_⟩; have n0_ := Aside0.mk (Kd.R_mono (ok' := fun k_ => some k_ ≠ (.slice Ao35 t1145.length co35 : Value).ownBlock) (Kd.R_keptB (HO_6.out) hkp (fun k_ hk_ hs_ => (hk_) hs_)) (fun k_ hk_ => hk_.1)); have n1_ := Aside0.mk (Kd.R_reok rfl hy0 (fun k_ e_ => HO_8.out.1 k_ e_)); have n2_ := Aside0.mk (blk_kept (by (with_reducible repeat (first | refine blk_drewN ?_ _ | refine blk_drew ?_ | refine blk_alloc ?_ _)); exact BK1121.out) hkp (fun hs_ => (fun e_ => (Kd.R_ne HO_8.out BK1121.out (by decide)) e_) hs_)); have n3_ := Aside0.mk (hb); clear HO_6; clear HO_8; clear BK1121; clear HB; have HO_6 := n0_; have HO_8 := n1_; have BK1121 := n2_; have HB := n3_; clear n0_ n1_ n2_ n3_; (try clear hb); (try clear hkp); (try clear hy0)) | ((with_reducible refine gate_callee (f := 22) rfl ?_); refine goesL_ (some 52) rfl rfl Try.func22 (by kernel_rfl) rfl #[.slice Ao35 t1162.length co35, .int .i64 1] rfl (by (try simp only [List.map_toArray, List.map_cons, List.map_nil]); first | done | (rw [show t1162.length = t1145.length from (Kd.R_reads' HO_8.out).1.symm] <;> rfl) | rfl | (simp only [List.length_drop, List.length_take]; rfl)) ?_; (with_reducible refine (laws_heldInt64S.calls kj17 _ _ t1162 1 t1163 _ ?side1 ?side2 A48.out).mono ?_); (case side1 => repeat (first | exact (Kd.R_reads' HO_8.out).2.2 | (with_reducible refine Kd.C_alloc ?_ _) | (with_reducible refine Kd.C_drewN ?_ _) | (with_reducible refine Kd.C_drew ?_))); (case side2 => rw [show t1162.length = t1145.length from (Kd.R_reads' HO_8.out).1.symm]; exact (Kd.R_reads' HO_8.out).2.1); rintro e w' ⟨rfl, ⟨nd, rfl⟩⟩; refine ⟨_, rfl, ?_⟩; have hcz81_0 : w80.cell? ⟨gb1121, 0, none⟩ = some (.string a0_0) := (blk_cell BK1121.out 0).trans rfl; have hcz81_1 : w80.cell? ⟨gb1121, 1, none⟩ = some (.int .i64 a0_1) := (blk_cell BK1121.out 1).trans rfl; have hcz81_2 : w80.cell? ⟨gb1121, 2, none⟩ = some (.slice A0_2 l0_2.length c0_2) := (blk_cell BK1121.out 2).trans rfl; have hcz81_3 : w80.cell? ⟨gb1121, 3, none⟩ = some (.int .i64 a0_3) := (blk_cell BK1121.out 3).trans rfl; have hcz81_4 : w80.cell? ⟨gb1121, 4, none⟩ = some (.slice A0_4 l0_4.length c0_4) := (blk_cell BK1121.out 4).trans rfl; have hfz81_0 := blk_frozen BK1121.out 0; have hfz81_1 := blk_frozen BK1121.out 1; have hfz81_2 := blk_frozen BK1121.out 2; have hfz81_3 := blk_frozen BK1121.out 3; have hfz81_4 := blk_frozen BK1121.out 4) | ((with_reducible refine gate_callee (f := 14) rfl ?_); refine goesL_ (some 59) rfl rfl Try.func14 (by kernel_rfl) rfl #[.agg #[.string a0_0, .int .i64 a0_1, .slice A0_2 l0_2.length c0_2, .int .i64 a0_3, .slice A0_4 l0_4.length c0_4]] rfl (by (try simp only [List.map_toArray, List.map_cons, List.map_nil]); first | done | rfl | (simp only [List.length_drop, List.length_take]; rfl)) ?_; (with_reducible refine (laws_toFunc.calls kj17 a0_0 a0_1 _ _ l0_2 a0_3 _ _ l0_4 t1164 t1165 t1166 t1169 t1170 _ ?side1 ?side2 ?side3 ?side4 A52.out).mono ?_); (case side1 => repeat (first | exact (Kd.C_below HR0_2.out (by repeat (first | (with_reducible first | exact HB.out | apply below_alloc | apply pw_below_drewN | apply below_drew1 | refine below_set ?_ GE1121.out) | exact HB.out))) | (with_reducible refine Kd.C_alloc ?_ _) | (with_reducible refine Kd.C_drewN ?_ _) | (with_reducible refine Kd.C_drew ?_))); (case side2 => exact HC0_2.out); (case side3 => repeat (first | exact (Kd.C_below HR0_4.out (by repeat (first | (with_reducible first | exact HB.out | apply below_alloc | apply pw_below_drewN | apply below_drew1 | refine below_set ?_ GE1121.out) | exact HB.out))) | (with_reducible refine Kd.C_alloc ?_ _) | (with_reducible refine Kd.C_drewN ?_ _) | (with_reducible refine Kd.C_drew ?_))); (case side4 => exact HC0_4.out); rintro e w82 ⟨v1167, v1171, rfl, ho0, ho1, hb⟩; refine ⟨_, rfl, ?_⟩; have n0_ := Aside0.mk (Kd.R_elder' (by (with_reducible repeat (first | apply Kd.R_alloc | apply Kd.R_drewN | apply Kd.R_drew)); exact HO_6.out) (Kd.R_base ho0) hb); have n1_ := Aside0.mk (Kd.R_elder' (by (with_reducible repeat (first | apply Kd.R_alloc | apply Kd.R_drewN | apply Kd.R_drew)); exact HO_8.out) (Kd.R_base ho0) hb); have n2_ := Aside0.mk (Kd.R_lower (Kd.R_new' (Kd.R_new' ho0 (Kd.R_lt (by (with_reducible repeat (first | apply Kd.R_alloc | apply Kd.R_drewN | apply Kd.R_drew)); exact HO_6.out))) (Kd.R_lt (by (with_reducible repeat (first | apply Kd.R_alloc | apply Kd.R_drewN | apply Kd.R_drew)); exact HO_8.out))) (below_size (by repeat (first | (with_reducible first | exact HB.out | apply below_alloc | apply pw_below_drewN | apply below_drew1 | refine below_set ?_ GE1121.out) | exact HB.out)))); have n3_ := Aside0.mk (Kd.R_lower (Kd.R_new' (Kd.R_new' ho1 (Kd.R_lt (by (with_reducible repeat (first | apply Kd.R_alloc | apply Kd.R_drewN | apply Kd.R_drew)); exact HO_6.out))) (Kd.R_lt (by (with_reducible repeat (first | apply Kd.R_alloc | apply Kd.R_drewN | apply Kd.R_drew)); exact HO_8.out))) (below_size (by repeat (first | (with_reducible first | exact HB.out | apply below_alloc | apply pw_below_drewN | apply below_drew1 | refine below_set ?_ GE1121.out) | exact HB.out)))); have n4_ := Aside0.mk (blk_below (g := gb1121) (o := .cells #[.string a0_0, .int .i64 a0_1, .slice A0_2 l0_2.length c0_2, .int .i64 a0_3, .slice A0_4 l0_4.length c0_4] 25 (0, 0)) (by (with_reducible repeat (first | refine blk_drewN ?_ _ | refine blk_drew ?_ | refine blk_alloc ?_ _)); exact BK1121.out) hb); have n5_ := Aside0.mk (below_step (by repeat (first | (with_reducible first | exact HB.out | apply below_alloc | apply pw_below_drewN | apply below_drew1 | refine below_set ?_ GE1121.out) | exact HB.out)) hb); clear HO_6; clear HO_8; clear BK1121; clear HB; have HO_6 := n0_; have HO_8 := n1_; have HO1168 := n2_; have HO1172 := n3_; have BK1121 := n4_; have HB := n5_; clear n0_ n1_ n2_ n3_ n4_ n5_; (try clear hb); (try clear hb2); (try clear hk); (try clear hi); (try clear ho0); (try clear ho1); obtain ⟨Ao83, co83, eo83⟩ := Kd.R_slice HO1168.out; subst eo83; obtain ⟨Ao84, co84, eo84⟩ := Kd.R_slice HO1172.out; subst eo84) | ((with_reducible refine gate_callee (f := 24) rfl ?_); refine goesL_ (some 61) rfl rfl Try.func24 (by kernel_rfl) rfl #[.agg #[.string t1164, .int .i64 t1165, .slice Ao83 t1166.length co83, .int .i64 t1169, .slice Ao84 t1170.length co84], .int .i64 a1] rfl (by (try simp only [List.map_toArray, List.map_cons, List.map_nil]); first | done | rfl | (simp only [List.length_drop, List.length_take]; rfl)) ?_; (with_reducible refine (impl_PrevBlocks.calls kj17 t1164 t1165 _ _ t1166 t1169 _ _ t1170 a1 t1173 _ ?side1 ?side2 ?side3 ?side4 A53.out).mono ?_); (case side1 => repeat (first | exact (Kd.R_reads' HO1168.out).2.2 | (with_reducible refine Kd.C_alloc ?_ _) | (with_reducible refine Kd.C_drewN ?_ _) | (with_reducible refine Kd.C_drew ?_))); (case side2 => exact (Kd.R_reads' HO1168.out).2.1); (case side3 => repeat (first | exact (Kd.R_reads' HO1172.out).2.2 | (with_reducible refine Kd.C_alloc ?_ _) | (with_reducible refine Kd.C_drewN ?_ _) | (with_reducible refine Kd.C_drew ?_))); (case side4 => exact (Kd.R_reads' HO1172.out).2.1); rintro e w85 ⟨v1174, rfl, ho0, hb⟩; refine ⟨_, rfl, ?_⟩; have n0_ := Aside0.mk (Kd.R_elder' (by (with_reducible repeat (first | apply Kd.R_alloc | apply Kd.R_drewN | apply Kd.R_drew)); exact HO_6.out) (Kd.R_base ho0) hb); have n1_ := Aside0.mk (Kd.R_elder' (by (with_reducible repeat (first | apply Kd.R_alloc | apply Kd.R_drewN | apply Kd.R_drew)); exact HO_8.out) (Kd.R_base ho0) hb); have n2_ := Aside0.mk (Kd.R_elder' (by (with_reducible repeat (first | apply Kd.R_alloc | apply Kd.R_drewN | apply Kd.R_drew)); exact HO1168.out) (Kd.R_base ho0) hb); have n3_ := Aside0.mk (Kd.R_elder' (by (with_reducible repeat (first | apply Kd.R_alloc | apply Kd.R_drewN | apply Kd.R_drew)); exact HO1172.out) (Kd.R_base ho0) hb); have n4_ := Aside0.mk (Kd.R_lower (Kd.R_new' (Kd.R_new' (Kd.R_new' ho0 (Kd.R_lt (by (with_reducible repeat (first | apply Kd.R_alloc | apply Kd.R_drewN | apply Kd.R_drew)); exact HO_6.out))) (Kd.R_lt (by (with_reducible repeat (first | apply Kd.R_alloc | apply Kd.R_drewN | apply Kd.R_drew)); exact HO_8.out))) (Kd.R_lt (by (with_reducible repeat (first | apply Kd.R_alloc | apply Kd.R_drewN | apply Kd.R_drew)); exact HO1168.out))) (below_size (by repeat (first | (with_reducible first | exact HB.out | apply below_alloc | apply pw_below_drewN | apply below_drew1 | refine below_set ?_ GE1121.out) | exact HB.out)))); have n5_ := Aside0.mk (blk_below (g := gb1121) (o := .cells #[.string a0_0, .int .i64 a0_1, .slice A0_2 l0_2.length c0_2, .int .i64 a0_3, .slice A0_4 l0_4.length c0_4] 25 (0, 0)) (by (with_reducible repeat (first | refine blk_drewN ?_ _ | refine blk_drew ?_ | refine blk_alloc ?_ _)); exact BK1121.out) hb); have n6_ := Aside0.mk (below_step (by repeat (first | (with_reducible first | exact HB.out | apply below_alloc | apply pw_below_drewN | apply below_drew1 | refine below_set ?_ GE1121.out) | exact HB.out)) hb); clear HO_6; clear HO_8; clear HO1168; clear HO1172; clear BK1121; clear HB; have HO_6 := n0_; have HO_8 := n1_; have HO1168 := n2_; have HO1172 := n3_; have HO1175 := n4_; have BK1121 := n5_; have HB := n6_; clear n0_ n1_ n2_ n3_ n4_ n5_ n6_; (try clear hb); (try clear hb2); (try clear hk); (try clear hi); (try clear ho0); obtain ⟨Ao86, co86, eo86⟩ := Kd.R_slice HO1175.out; subst eo86) | ((with_reducible refine gate_callee (f := 19) rfl ?_); refine goesL_ (some 64) rfl rfl Try.func19 (by kernel_rfl) rfl #[.slice Ao86 t1173.length co86, .slice Ao36 t1132.length co36] rfl (by (try simp only [List.map_toArray, List.map_cons, List.map_nil]); first | done | rfl | (simp only [List.length_drop, List.length_take]; rfl)) ?_; (with_reducible refine (laws_eqInt64S.calls kj17 _ _ t1173 _ _ t1132 false _ ?side1 ?side2 ?side3 ?side4 A54.out).mono ?_); (case side1 => repeat (first | exact (Kd.R_reads' HO1175.out).2.2 | (with_reducible refine Kd.C_alloc ?_ _) | (with_reducible refine Kd.C_drewN ?_ _) | (with_reducible refine Kd.C_drew ?_))); (case side2 => exact (Kd.R_reads' HO1175.out).2.1); (case side3 => repeat (first | exact (Kd.R_reads' HO_6.out).2.2 | (with_reducible refine Kd.C_alloc ?_ _) | (with_reducible refine Kd.C_drewN ?_ _) | (with_reducible refine Kd.C_drew ?_))); (case side4 => exact (Kd.R_reads' HO_6.out).2.1); rintro e w' ⟨rfl, ⟨nd, rfl⟩⟩; refine ⟨_, rfl, ?_⟩))
                    go_ret
                    exact ⟨by first | rfl | (simp [errW_none, errW_some] <;> rfl) | (simp [*, errW_none, errW_some] <;> rfl), by repeat (first | (with_reducible first | exact HB.out | apply below_alloc | apply pw_below_drewN | apply below_drew1 | refine below_set ?_ GE1121.out) | exact HB.out)⟩
                · rw [if_neg c51] at H
                  have c51b0 : (t1163 == t1161) = false := beq_eq_false_iff_ne.mpr c51
                  have c51b1 : (t1163 != t1161) = true := bne_iff_ne.mpr c51
                  obtain rfl := Option.some.inj H
                  go_wp2_with (first | ((with_reducible refine gate_callee (f := 21) rfl ?_); refine goesL_ (some 49) rfl rfl Try.func21 (by kernel_rfl) rfl #[.slice Ao35 t1145.length co35, .int .i64 1] rfl (by (try simp only [List.map_toArray, List.map_cons, List.map_nil]); first | done | rfl | (simp only [List.length_drop, List.length_take]; rfl)) ?_; (with_reducible refine (laws_markInt64S.calls kj17 (fun k_ => some k_ = (.slice Ao35 t1145.length co35 : Value).ownBlock) (.slice Ao35 t1145.length co35) t1145 1 t1161 t1162 w _ ?side1 ?side2 A47.out).mono ?_); (case side1 => repeat (first | (with_reducible first | exact HB.out | apply below_alloc | apply pw_below_drewN | apply below_drew1 | refine below_set ?_ GE1121.out) | exact HB.out)); (case side2 => exact Kd.R_tight rfl HO_8.out); rintro e w87 ⟨rfl, hy0, hb, hkp⟩; refine ⟨_, rfl, ?_⟩; have n0_ := Aside0.mk (Kd.R_mono (ok' := fun k_ => some k_ ≠ (.slice Ao35 t1145.length co35 : Value).ownBlock) (Kd.R_keptB (HO_6.out) hkp (fun k_ hk_ hs_ => (hk_) hs_)) (fun k_ hk_ => hk_.1)); have n1_ := Aside0.mk (Kd.R_reok rfl hy0 (fun k_ e_ => HO_8.out.1 k_ e_)); have n2_ := Aside0.mk (blk_kept (by (with_reducible repeat (first | refine blk_drewN ?_ _ | refine blk_drew ?_ | refine blk_alloc ?_ _)); exact BK1121.out) hkp (fun hs_ => (fun e_ => (Kd.R_ne HO_8.out BK1121.out (by decide)) e_) hs_)); have n3_ := Aside0.mk (hb); clear HO_6; clear HO_8; clear BK1121; clear HB; have HO_6 := n0_; have HO_8 := n1_; have BK1121 := n2_; have HB := n3_; clear n0_ n1_ n2_ n3_; (try clear hb); (try clear hkp); (try clear hy0)) | ((with_reducible refine gate_callee (f := 22) rfl ?_); refine goesL_ (some 52) rfl rfl Try.func22 (by kernel_rfl) rfl #[.slice Ao35 t1162.length co35, .int .i64 1] rfl (by (try simp only [List.map_toArray, List.map_cons, List.map_nil]); first | done | (rw [show t1162.length = t1145.length from (Kd.R_reads' HO_8.out).1.symm] <;> rfl) | rfl | (simp only [List.length_drop, List.length_take]; rfl)) ?_; (with_reducible refine (laws_heldInt64S.calls kj17 _ _ t1162 1 t1163 _ ?side1 ?side2 A48.out).mono ?_); (case side1 => repeat (first | exact (Kd.R_reads' HO_8.out).2.2 | (with_reducible refine Kd.C_alloc ?_ _) | (with_reducible refine Kd.C_drewN ?_ _) | (with_reducible refine Kd.C_drew ?_))); (case side2 => rw [show t1162.length = t1145.length from (Kd.R_reads' HO_8.out).1.symm]; exact (Kd.R_reads' HO_8.out).2.1); rintro e w' ⟨rfl, ⟨nd, rfl⟩⟩; refine ⟨_, rfl, ?_⟩))
                  go_ret
                  exact ⟨by first | rfl | (simp [errW_none, errW_some] <;> rfl) | (simp [*, errW_none, errW_some] <;> rfl), by repeat (first | (with_reducible first | exact HB.out | apply below_alloc | apply pw_below_drewN | apply below_drew1 | refine below_set ?_ GE1121.out) | exact HB.out)⟩
      · replace c16 := Bool.eq_false_iff.mpr c16
        subst c16
        have H1 : (some false) = some r := by rw [if_neg (show ¬ (false = true) by decide)] at H; exact H
        clear H
        have H := H1
        clear H1
        obtain rfl := Option.some.inj H
        go_enter Try.func5, Try.ntmps5
        try go_wp2_with (first | ((with_reducible refine gate_dst (N := 2) rfl ?_); refine box_event ?hg (N := 2) ?hd (cs := #[.string a0_0, .int .i64 a0_1, .slice A0_2 l0_2.length c0_2, .int .i64 a0_3, .slice A0_4 l0_4.length c0_4]) (t := 25) ?hr ?_; (case hd => rfl); (case hg => rfl); (case hr => first | (go_simp; done) | (go_simp; rfl)); intro gb1121 hg w88 hbox hb; have n0_ := Aside0.mk (below_step (by repeat (first | (with_reducible first | exact HB.out | apply below_alloc | apply pw_below_drewN | apply below_drew1) | exact HB.out)) hb); have n1_ := Aside0.mk (hbox); have n2_ := Aside0.mk ((by rw [hg]; exact (below_size (by repeat (first | (with_reducible first | exact HB.out | apply below_alloc | apply pw_below_drewN | apply below_drew1) | exact HB.out))) : w.heap.size ≤ gb1121)); have n3_ := Aside0.mk ((by rw [hg]; exact (below_size (by repeat (first | (with_reducible first | exact HB.out | apply below_alloc | apply pw_below_drewN | apply below_drew1) | exact HB.out))) : w.heap.size ≤ gb1121)); clear HB; have HB := n0_; have BK1121 := n1_; have GW1121 := n2_; have GE1121 := n3_; clear n0_ n1_ n2_ n3_; clear hb hbox hg; have hcz89_0 : w88.cell? ⟨gb1121, 0, none⟩ = some (.string a0_0) := (blk_cell BK1121.out 0).trans rfl; have hcz89_1 : w88.cell? ⟨gb1121, 1, none⟩ = some (.int .i64 a0_1) := (blk_cell BK1121.out 1).trans rfl; have hcz89_2 : w88.cell? ⟨gb1121, 2, none⟩ = some (.slice A0_2 l0_2.length c0_2) := (blk_cell BK1121.out 2).trans rfl; have hcz89_3 : w88.cell? ⟨gb1121, 3, none⟩ = some (.int .i64 a0_3) := (blk_cell BK1121.out 3).trans rfl; have hcz89_4 : w88.cell? ⟨gb1121, 4, none⟩ = some (.slice A0_4 l0_4.length c0_4) := (blk_cell BK1121.out 4).trans rfl; have hfz89_0 := blk_frozen BK1121.out 0; have hfz89_1 := blk_frozen BK1121.out 1; have hfz89_2 := blk_frozen BK1121.out 2; have hfz89_3 := blk_frozen BK1121.out 3; have hfz89_4 := blk_frozen BK1121.out 4) | ((with_reducible refine gate_callee (f := 12) rfl ?_); refine goesL_ (some 15) rfl rfl Try.func12 (by kernel_rfl) rfl #[.agg #[.string a0_0, .int .i64 a0_1, .slice A0_2 l0_2.length c0_2, .int .i64 a0_3, .slice A0_4 l0_4.length c0_4], .int .i64 1048576] rfl (by (try simp only [List.map_toArray, List.map_cons, List.map_nil]); first | done | rfl | (simp only [List.length_drop, List.length_take]; rfl)) ?_; (with_reducible refine (laws_szFunc.calls k a0_0 a0_1 _ _ l0_2 a0_3 _ _ l0_4 1048576 t1122 _ ?side1 ?side2 ?side3 ?side4 A3.out).mono ?_); (case side1 => repeat (first | exact (Kd.C_below HR0_2.out HB.out) | (with_reducible refine Kd.C_alloc ?_ _) | (with_reducible refine Kd.C_drewN ?_ _) | (with_reducible refine Kd.C_drew ?_))); (case side2 => exact HC0_2.out); (case side3 => repeat (first | exact (Kd.C_below HR0_4.out HB.out) | (with_reducible refine Kd.C_alloc ?_ _) | (with_reducible refine Kd.C_drewN ?_ _) | (with_reducible refine Kd.C_drew ?_))); (case side4 => exact HC0_4.out); rintro e w90 ⟨rfl, hb⟩; refine ⟨_, rfl, ?_⟩; have n0_ := Aside0.mk (blk_below (g := gb1121) (o := .cells #[.string a0_0, .int .i64 a0_1, .slice A0_2 l0_2.length c0_2, .int .i64 a0_3, .slice A0_4 l0_4.length c0_4] 25 (0, 0)) (by (with_reducible repeat (first | refine blk_drewN ?_ _ | refine blk_drew ?_ | refine blk_alloc ?_ _)); exact BK1121.out) hb); have n1_ := Aside0.mk (below_step (by repeat (first | (with_reducible first | exact HB.out | apply below_alloc | apply pw_below_drewN | apply below_drew1 | refine below_set ?_ GE1121.out) | exact HB.out)) hb); clear BK1121; clear HB; have BK1121 := n0_; have HB := n1_; clear n0_ n1_; (try clear hb); (try clear hb2); (try clear hk); (try clear hi); have hcz91_0 : w90.cell? ⟨gb1121, 0, none⟩ = some (.string a0_0) := (blk_cell BK1121.out 0).trans rfl; have hcz91_1 : w90.cell? ⟨gb1121, 1, none⟩ = some (.int .i64 a0_1) := (blk_cell BK1121.out 1).trans rfl; have hcz91_2 : w90.cell? ⟨gb1121, 2, none⟩ = some (.slice A0_2 l0_2.length c0_2) := (blk_cell BK1121.out 2).trans rfl; have hcz91_3 : w90.cell? ⟨gb1121, 3, none⟩ = some (.int .i64 a0_3) := (blk_cell BK1121.out 3).trans rfl; have hcz91_4 : w90.cell? ⟨gb1121, 4, none⟩ = some (.slice A0_4 l0_4.length c0_4) := (blk_cell BK1121.out 4).trans rfl; have hfz91_0 := blk_frozen BK1121.out 0; have hfz91_1 := blk_frozen BK1121.out 1; have hfz91_2 := blk_frozen BK1121.out 2; have hfz91_3 := blk_frozen BK1121.out 3; have hfz91_4 := blk_frozen BK1121.out 4) | ((with_reducible refine gate_callee (f := 14) rfl ?_); refine goesL_ (some 19) rfl rfl Try.func14 (by kernel_rfl) rfl #[.agg #[.string a0_0, .int .i64 a0_1, .slice A0_2 l0_2.length c0_2, .int .i64 a0_3, .slice A0_4 l0_4.length c0_4]] rfl (by (try simp only [List.map_toArray, List.map_cons, List.map_nil]); first | done | rfl | (simp only [List.length_drop, List.length_take]; rfl)) ?_; (with_reducible refine (laws_toFunc.calls k a0_0 a0_1 _ _ l0_2 a0_3 _ _ l0_4 t1123 t1124 t1125 t1128 t1129 _ ?side1 ?side2 ?side3 ?side4 A8.out).mono ?_); (case side1 => repeat (first | exact (Kd.C_below HR0_2.out HB.out) | (with_reducible refine Kd.C_alloc ?_ _) | (with_reducible refine Kd.C_drewN ?_ _) | (with_reducible refine Kd.C_drew ?_))); (case side2 => exact HC0_2.out); (case side3 => repeat (first | exact (Kd.C_below HR0_4.out HB.out) | (with_reducible refine Kd.C_alloc ?_ _) | (with_reducible refine Kd.C_drewN ?_ _) | (with_reducible refine Kd.C_drew ?_))); (case side4 => exact HC0_4.out); rintro e w92 ⟨v1126, v1130, rfl, ho0, ho1, hb⟩; refine ⟨_, rfl, ?_⟩; have n0_ := Aside0.mk (Kd.R_lower ho0 (below_size (by repeat (first | (with_reducible first | exact HB.out | apply below_alloc | apply pw_below_drewN | apply below_drew1 | refine below_set ?_ GE1121.out) | exact HB.out)))); have n1_ := Aside0.mk (Kd.R_lower ho1 (below_size (by repeat (first | (with_reducible first | exact HB.out | apply below_alloc | apply pw_below_drewN | apply below_drew1 | refine below_set ?_ GE1121.out) | exact HB.out)))); have n2_ := Aside0.mk (blk_below (g := gb1121) (o := .cells #[.string a0_0, .int .i64 a0_1, .slice A0_2 l0_2.length c0_2, .int .i64 a0_3, .slice A0_4 l0_4.length c0_4] 25 (0, 0)) (by (with_reducible repeat (first | refine blk_drewN ?_ _ | refine blk_drew ?_ | refine blk_alloc ?_ _)); exact BK1121.out) hb); have n3_ := Aside0.mk (below_step (by repeat (first | (with_reducible first | exact HB.out | apply below_alloc | apply pw_below_drewN | apply below_drew1 | refine below_set ?_ GE1121.out) | exact HB.out)) hb); clear BK1121; clear HB; have HO1127 := n0_; have HO1131 := n1_; have BK1121 := n2_; have HB := n3_; clear n0_ n1_ n2_ n3_; (try clear hb); (try clear hb2); (try clear hk); (try clear hi); (try clear ho0); (try clear ho1); obtain ⟨Ao93, co93, eo93⟩ := Kd.R_slice HO1127.out; subst eo93; obtain ⟨Ao94, co94, eo94⟩ := Kd.R_slice HO1131.out; subst eo94) | ((with_reducible refine gate_callee (f := 23) rfl ?_); refine goesL_ (some 21) rfl rfl Try.func23 (by kernel_rfl) rfl #[.agg #[.string t1123, .int .i64 t1124, .slice Ao93 t1125.length co93, .int .i64 t1128, .slice Ao94 t1129.length co94], .int .i64 a1] rfl (by (try simp only [List.map_toArray, List.map_cons, List.map_nil]); first | done | rfl | (simp only [List.length_drop, List.length_take]; rfl)) ?_; (with_reducible refine (spec_PrevBlocks.calls k t1123 t1124 _ _ t1125 t1128 _ _ t1129 a1 t1132 _ ?side1 ?side2 ?side3 ?side4 A9.out).mono ?_); (case side1 => repeat (first | exact (Kd.R_reads' HO1127.out).2.2 | (with_reducible refine Kd.C_alloc ?_ _) | (with_reducible refine Kd.C_drewN ?_ _) | (with_reducible refine Kd.C_drew ?_))); (case side2 => exact (Kd.R_reads' HO1127.out).2.1); (case side3 => repeat (first | exact (Kd.R_reads' HO1131.out).2.2 | (with_reducible refine Kd.C_alloc ?_ _) | (with_reducible refine Kd.C_drewN ?_ _) | (with_reducible refine Kd.C_drew ?_))); (case side4 => exact (Kd.R_reads' HO1131.out).2.1); rintro e w95 ⟨v1133, rfl, ho0, hb⟩; refine ⟨_, rfl, ?_⟩; have n0_ := Aside0.mk (Kd.R_elder' (by (with_reducible repeat (first | apply Kd.R_alloc | apply Kd.R_drewN | apply Kd.R_drew)); exact HO1127.out) (Kd.R_base ho0) hb); have n1_ := Aside0.mk (Kd.R_elder' (by (with_reducible repeat (first | apply Kd.R_alloc | apply Kd.R_drewN | apply Kd.R_drew)); exact HO1131.out) (Kd.R_base ho0) hb); have n2_ := Aside0.mk (Kd.R_lower (Kd.R_new' ho0 (Kd.R_lt (by (with_reducible repeat (first | apply Kd.R_alloc | apply Kd.R_drewN | apply Kd.R_drew)); exact HO1127.out))) (below_size (by repeat (first | (with_reducible first | exact HB.out | apply below_alloc | apply pw_below_drewN | apply below_drew1 | refine below_set ?_ GE1121.out) | exact HB.out)))); have n3_ := Aside0.mk (blk_below (g := gb1121) (o := .cells #[.string a0_0, .int .i64 a0_1, .slice A0_2 l0_2.length c0_2, .int .i64 a0_3, .slice A0_4 l0_4.length c0_4] 25 (0, 0)) (by (with_reducible repeat (first | refine blk_drewN ?_ _ | refine blk_drew ?_ | refine blk_alloc ?_ _)); exact BK1121.out) hb); have n4_ := Aside0.mk (below_step (by repeat (first | (with_reducible first | exact HB.out | apply below_alloc | apply pw_below_drewN | apply below_drew1 | refine below_set ?_ GE1121.out) | exact HB.out)) hb); clear HO1127; clear HO1131; clear BK1121; clear HB; have HO1127 := n0_; have HO1131 := n1_; have HO1134 := n2_; have BK1121 := n3_; have HB := n4_; clear n0_ n1_ n2_ n3_ n4_; (try clear hb); (try clear hb2); (try clear hk); (try clear hi); (try clear ho0); have hcz96_0 : w95.cell? ⟨gb1121, 0, none⟩ = some (.string a0_0) := (blk_cell BK1121.out 0).trans rfl; have hcz96_1 : w95.cell? ⟨gb1121, 1, none⟩ = some (.int .i64 a0_1) := (blk_cell BK1121.out 1).trans rfl; have hcz96_2 : w95.cell? ⟨gb1121, 2, none⟩ = some (.slice A0_2 l0_2.length c0_2) := (blk_cell BK1121.out 2).trans rfl; have hcz96_3 : w95.cell? ⟨gb1121, 3, none⟩ = some (.int .i64 a0_3) := (blk_cell BK1121.out 3).trans rfl; have hcz96_4 : w95.cell? ⟨gb1121, 4, none⟩ = some (.slice A0_4 l0_4.length c0_4) := (blk_cell BK1121.out 4).trans rfl; have hfz96_0 := blk_frozen BK1121.out 0; have hfz96_1 := blk_frozen BK1121.out 1; have hfz96_2 := blk_frozen BK1121.out 2; have hfz96_3 := blk_frozen BK1121.out 3; have hfz96_4 := blk_frozen BK1121.out 4) | ((with_reducible refine gate_callee (f := 14) rfl ?_); refine goesL_ (some 23) rfl rfl Try.func14 (by kernel_rfl) rfl #[.agg #[.string a0_0, .int .i64 a0_1, .slice A0_2 l0_2.length c0_2, .int .i64 a0_3, .slice A0_4 l0_4.length c0_4]] rfl (by (try simp only [List.map_toArray, List.map_cons, List.map_nil]); first | done | rfl | (simp only [List.length_drop, List.length_take]; rfl)) ?_; (with_reducible refine (laws_toFunc.calls k a0_0 a0_1 _ _ l0_2 a0_3 _ _ l0_4 t1135 t1136 t1137 t1140 t1141 _ ?side1 ?side2 ?side3 ?side4 A10.out).mono ?_); (case side1 => repeat (first | exact (Kd.C_below HR0_2.out HB.out) | (with_reducible refine Kd.C_alloc ?_ _) | (with_reducible refine Kd.C_drewN ?_ _) | (with_reducible refine Kd.C_drew ?_))); (case side2 => exact HC0_2.out); (case side3 => repeat (first | exact (Kd.C_below HR0_4.out HB.out) | (with_reducible refine Kd.C_alloc ?_ _) | (with_reducible refine Kd.C_drewN ?_ _) | (with_reducible refine Kd.C_drew ?_))); (case side4 => exact HC0_4.out); rintro e w97 ⟨v1138, v1142, rfl, ho0, ho1, hb⟩; refine ⟨_, rfl, ?_⟩; have n0_ := Aside0.mk (Kd.R_elder' (by (with_reducible repeat (first | apply Kd.R_alloc | apply Kd.R_drewN | apply Kd.R_drew)); exact HO1127.out) (Kd.R_base ho0) hb); have n1_ := Aside0.mk (Kd.R_mono (Kd.R_told (Kd.R_told (Kd.R_old (by (with_reducible repeat (first | apply Kd.R_alloc | apply Kd.R_drewN | apply Kd.R_drew)); exact HO1131.out) hb) (Kd.R_base ho0)) (Kd.R_base ho1)) (fun _ h_ => h_.1)); have n2_ := Aside0.mk (Kd.R_elder' (by (with_reducible repeat (first | apply Kd.R_alloc | apply Kd.R_drewN | apply Kd.R_drew)); exact HO1134.out) (Kd.R_base ho0) hb); have n3_ := Aside0.mk (Kd.R_lower (Kd.R_new' (Kd.R_new' ho0 (Kd.R_lt (by (with_reducible repeat (first | apply Kd.R_alloc | apply Kd.R_drewN | apply Kd.R_drew)); exact HO1127.out))) (Kd.R_lt (by (with_reducible repeat (first | apply Kd.R_alloc | apply Kd.R_drewN | apply Kd.R_drew)); exact HO1134.out))) (below_size (by repeat (first | (with_reducible first | exact HB.out | apply below_alloc | apply pw_below_drewN | apply below_drew1 | refine below_set ?_ GE1121.out) | exact HB.out)))); have n4_ := Aside0.mk (Kd.R_lower (Kd.R_new' (Kd.R_new' (Kd.R_new' ho1 (Kd.R_lt (by (with_reducible repeat (first | apply Kd.R_alloc | apply Kd.R_drewN | apply Kd.R_drew)); exact HO1127.out))) (Kd.R_lt (by (with_reducible repeat (first | apply Kd.R_alloc | apply Kd.R_drewN | apply Kd.R_drew)); exact HO1131.out))) (Kd.R_lt (by (with_reducible repeat (first | apply Kd.R_alloc | apply Kd.R_drewN | apply Kd.R_drew)); exact HO1134.out))) (below_size (by repeat (first | (with_reducible first | exact HB.out | apply below_alloc | apply pw_below_drewN | apply below_drew1 | refine below_set ?_ GE1121.out) | exact HB.out)))); have n5_ := Aside0.mk (blk_below (g := gb1121) (o := .cells #[.string a0_0, .int .i64 a0_1, .slice A0_2 l0_2.length c0_2, .int .i64 a0_3, .slice A0_4 l0_4.length c0_4] 25 (0, 0)) (by (with_reducible repeat (first | refine blk_drewN ?_ _ | refine blk_drew ?_ | refine blk_alloc ?_ _)); exact BK1121.out) hb); have n6_ := Aside0.mk (below_step (by repeat (first | (with_reducible first | exact HB.out | apply below_alloc | apply pw_below_drewN | apply below_drew1 | refine below_set ?_ GE1121.out) | exact HB.out)) hb); clear HO1127; clear HO1131; clear HO1134; clear BK1121; clear HB; have HO1127 := n0_; have HO1131 := n1_; have HO1134 := n2_; have HO1139 := n3_; have HO1143 := n4_; have BK1121 := n5_; have HB := n6_; clear n0_ n1_ n2_ n3_ n4_ n5_ n6_; (try clear hb); (try clear hb2); (try clear hk); (try clear hi); (try clear ho0); (try clear ho1)) | ((with_reducible refine gate_dst (N := 7) rfl ?_); refine box_event ?hg (N := 7) ?hd (cs := #[.string (⟨#[]⟩ : ByteArray), .int .i64 0, .slice none 0 0, .int .i64 0, .slice none 0 0]) (t := 30) ?hr ?_; (case hd => rfl); (case hg => rfl); (case hr => first | (go_simp; done) | (go_simp; rfl)); intro gb1144 hg w98 hbox hb; have n0_ := Aside0.mk (Kd.R_below (by (with_reducible repeat (first | apply Kd.R_alloc | apply Kd.R_drewN | apply Kd.R_drew)); exact HO1127.out) hb); have n1_ := Aside0.mk (Kd.R_below (by (with_reducible repeat (first | apply Kd.R_alloc | apply Kd.R_drewN | apply Kd.R_drew)); exact HO1131.out) hb); have n2_ := Aside0.mk (Kd.R_below (by (with_reducible repeat (first | apply Kd.R_alloc | apply Kd.R_drewN | apply Kd.R_drew)); exact HO1134.out) hb); have n3_ := Aside0.mk (Kd.R_below (by (with_reducible repeat (first | apply Kd.R_alloc | apply Kd.R_drewN | apply Kd.R_drew)); exact HO1139.out) hb); have n4_ := Aside0.mk (Kd.R_below (by (with_reducible repeat (first | apply Kd.R_alloc | apply Kd.R_drewN | apply Kd.R_drew)); exact HO1143.out) hb); have n5_ := Aside0.mk (blk_below (g := gb1121) (o := .cells #[.string a0_0, .int .i64 a0_1, .slice A0_2 l0_2.length c0_2, .int .i64 a0_3, .slice A0_4 l0_4.length c0_4] 25 (0, 0)) (by (with_reducible repeat (first | refine blk_drewN ?_ _ | refine blk_drew ?_ | refine blk_alloc ?_ _)); exact BK1121.out) hb); have n6_ := Aside0.mk (below_step (by repeat (first | (with_reducible first | exact HB.out | apply below_alloc | apply pw_below_drewN | apply below_drew1 | refine below_set ?_ GE1121.out) | exact HB.out)) hb); have n7_ := Aside0.mk (hbox); have n8_ := Aside0.mk ((by rw [hg]; exact (below_size (by repeat (first | (with_reducible first | exact HB.out | apply below_alloc | apply pw_below_drewN | apply below_drew1 | refine below_set ?_ GE1121.out) | exact HB.out))) : w.heap.size ≤ gb1144)); have n9_ := Aside0.mk ((by rw [hg]; exact (below_size (by repeat (first | (with_reducible first | exact HB.out | apply below_alloc | apply pw_below_drewN | apply below_drew1 | refine below_set ?_ GE1121.out) | exact HB.out))) : w.heap.size ≤ gb1144)); have n10_ := Aside0.mk ((by rw [hg]; exact Nat.ne_of_lt (blk_lt (g := gb1121) (o := .cells #[.string a0_0, .int .i64 a0_1, .slice A0_2 l0_2.length c0_2, .int .i64 a0_3, .slice A0_4 l0_4.length c0_4] 25 (0, 0)) (by (with_reducible repeat (first | refine blk_drewN ?_ _ | refine blk_drew ?_ | refine blk_alloc ?_ _)); exact BK1121.out)) : gb1121 ≠ gb1144)); have n11_ := Aside0.mk ((by rw [hg]; exact Nat.ne_of_gt (blk_lt (g := gb1121) (o := .cells #[.string a0_0, .int .i64 a0_1, .slice A0_2 l0_2.length c0_2, .int .i64 a0_3, .slice A0_4 l0_4.length c0_4] 25 (0, 0)) (by (with_reducible repeat (first | refine blk_drewN ?_ _ | refine blk_drew ?_ | refine blk_alloc ?_ _)); exact BK1121.out)) : gb1144 ≠ gb1121)); clear HO1127; clear HO1131; clear HO1134; clear HO1139; clear HO1143; clear BK1121; clear HB; have HO1127 := n0_; have HO1131 := n1_; have HO1134 := n2_; have HO1139 := n3_; have HO1143 := n4_; have BK1121 := n5_; have HB := n6_; have BK1144 := n7_; have GW1144 := n8_; have GE1144 := n9_; have NB1121_1144 := n10_; have NB1144_1121 := n11_; clear n0_ n1_ n2_ n3_ n4_ n5_ n6_ n7_ n8_ n9_ n10_ n11_; clear hb hbox hg; have hnb99 := NB1144_1121.out; have hnc99 := NB1121_1144.out; have hcz100_0 : w98.cell? ⟨gb1144, 0, none⟩ = some (.string (⟨#[]⟩ : ByteArray)) := (blk_cell BK1144.out 0).trans rfl; have hcz100_1 : w98.cell? ⟨gb1144, 1, none⟩ = some (.int .i64 0) := (blk_cell BK1144.out 1).trans rfl; have hcz100_2 : w98.cell? ⟨gb1144, 2, none⟩ = some (.slice none 0 0) := (blk_cell BK1144.out 2).trans rfl; have hcz100_3 : w98.cell? ⟨gb1144, 3, none⟩ = some (.int .i64 0) := (blk_cell BK1144.out 3).trans rfl; have hcz100_4 : w98.cell? ⟨gb1144, 4, none⟩ = some (.slice none 0 0) := (blk_cell BK1144.out 4).trans rfl; have hfz100_0 := blk_frozen BK1144.out 0; have hfz100_1 := blk_frozen BK1144.out 1; have hfz100_2 := blk_frozen BK1144.out 2; have hfz100_3 := blk_frozen BK1144.out 3; have hfz100_4 := blk_frozen BK1144.out 4; obtain ⟨Ao101, co101, eo101⟩ := Kd.R_slice HO1139.out; subst eo101; obtain ⟨Ao102, co102, eo102⟩ := Kd.R_slice HO1143.out; subst eo102) | ((with_reducible refine gate_callee (f := 24) rfl ?_); refine goesL_ (some 26) rfl rfl Try.func24 (by kernel_rfl) rfl #[.agg #[.string t1135, .int .i64 t1136, .slice Ao101 t1137.length co101, .int .i64 t1140, .slice Ao102 t1141.length co102], .int .i64 a1] rfl (by (try simp only [List.map_toArray, List.map_cons, List.map_nil]); first | done | rfl | (simp only [List.length_drop, List.length_take]; rfl)) ?_; (with_reducible refine (impl_PrevBlocks.calls k t1135 t1136 _ _ t1137 t1140 _ _ t1141 a1 t1145 _ ?side1 ?side2 ?side3 ?side4 A11.out).mono ?_); (case side1 => refine (Kd.R_reads' (e := 2) (base := w.heap.size) (ok := fun k_ => ((True ∧ some k_ ≠ (.slice Ao93 t1125.length co93 : Value).ownBlock) ∧ some k_ ≠ (v1133 : Value).ownBlock)) (n := t1137.length) (c := co101) ?_).2.2; exact (by (with_reducible repeat (first | apply Kd.R_alloc | apply Kd.R_drewN | apply Kd.R_drew)); exact (Kd.R_mono (Kd.R_far (p := ⟨gb1144, 4, none⟩) (Kd.R_far (p := ⟨gb1144, 3, none⟩) (Kd.R_far (p := ⟨gb1144, 2, none⟩) (Kd.R_far (p := ⟨gb1144, 1, none⟩) (Kd.R_far (p := ⟨gb1144, 0, none⟩) (Kd.R_types HO1139.out BK1144.out (by decide)) (fun _ hk => hk.2) (.string t1135)) (fun _ hk => hk.2) (.int .i64 t1136)) (fun _ hk => hk.2) (.slice Ao101 t1137.length co101)) (fun _ hk => hk.2) (.int .i64 t1140)) (fun _ hk => hk.2) (.slice Ao102 t1141.length co102)) (fun _ h_ => h_.1)))); (case side2 => exact (Kd.R_reads' HO1139.out).2.1); (case side3 => refine (Kd.R_reads' (e := 62) (base := w.heap.size) (ok := fun k_ => (((some k_ ≠ (.slice Ao101 t1137.length co101 : Value).ownBlock ∧ some k_ ≠ (.slice Ao93 t1125.length co93 : Value).ownBlock) ∧ some k_ ≠ (.slice Ao94 t1129.length co94 : Value).ownBlock) ∧ some k_ ≠ (v1133 : Value).ownBlock)) (n := t1141.length) (c := co102) ?_).2.2; exact (by (with_reducible repeat (first | apply Kd.R_alloc | apply Kd.R_drewN | apply Kd.R_drew)); exact (Kd.R_mono (Kd.R_far (p := ⟨gb1144, 4, none⟩) (Kd.R_far (p := ⟨gb1144, 3, none⟩) (Kd.R_far (p := ⟨gb1144, 2, none⟩) (Kd.R_far (p := ⟨gb1144, 1, none⟩) (Kd.R_far (p := ⟨gb1144, 0, none⟩) (Kd.R_types HO1143.out BK1144.out (by decide)) (fun _ hk => hk.2) (.string t1135)) (fun _ hk => hk.2) (.int .i64 t1136)) (fun _ hk => hk.2) (.slice Ao101 t1137.length co101)) (fun _ hk => hk.2) (.int .i64 t1140)) (fun _ hk => hk.2) (.slice Ao102 t1141.length co102)) (fun _ h_ => h_.1)))); (case side4 => exact (Kd.R_reads' HO1143.out).2.1); rintro e w103 ⟨v1146, rfl, ho0, hb⟩; refine ⟨_, rfl, ?_⟩; have n0_ := Aside0.mk (Kd.R_elder' (by (with_reducible repeat (first | apply Kd.R_alloc | apply Kd.R_drewN | apply Kd.R_drew)); exact (Kd.R_mono (Kd.R_far (p := ⟨gb1144, 4, none⟩) (Kd.R_far (p := ⟨gb1144, 3, none⟩) (Kd.R_far (p := ⟨gb1144, 2, none⟩) (Kd.R_far (p := ⟨gb1144, 1, none⟩) (Kd.R_far (p := ⟨gb1144, 0, none⟩) (Kd.R_types HO1127.out BK1144.out (by decide)) (fun _ hk => hk.2) (.string t1135)) (fun _ hk => hk.2) (.int .i64 t1136)) (fun _ hk => hk.2) (.slice Ao101 t1137.length co101)) (fun _ hk => hk.2) (.int .i64 t1140)) (fun _ hk => hk.2) (.slice Ao102 t1141.length co102)) (fun _ h_ => h_.1))) (Kd.R_base ho0) hb); have n1_ := Aside0.mk (Kd.R_elder' (by (with_reducible repeat (first | apply Kd.R_alloc | apply Kd.R_drewN | apply Kd.R_drew)); exact (Kd.R_mono (Kd.R_far (p := ⟨gb1144, 4, none⟩) (Kd.R_far (p := ⟨gb1144, 3, none⟩) (Kd.R_far (p := ⟨gb1144, 2, none⟩) (Kd.R_far (p := ⟨gb1144, 1, none⟩) (Kd.R_far (p := ⟨gb1144, 0, none⟩) (Kd.R_types HO1131.out BK1144.out (by decide)) (fun _ hk => hk.2) (.string t1135)) (fun _ hk => hk.2) (.int .i64 t1136)) (fun _ hk => hk.2) (.slice Ao101 t1137.length co101)) (fun _ hk => hk.2) (.int .i64 t1140)) (fun _ hk => hk.2) (.slice Ao102 t1141.length co102)) (fun _ h_ => h_.1))) (Kd.R_base ho0) hb); have n2_ := Aside0.mk (Kd.R_elder' (by (with_reducible repeat (first | apply Kd.R_alloc | apply Kd.R_drewN | apply Kd.R_drew)); exact (Kd.R_mono (Kd.R_far (p := ⟨gb1144, 4, none⟩) (Kd.R_far (p := ⟨gb1144, 3, none⟩) (Kd.R_far (p := ⟨gb1144, 2, none⟩) (Kd.R_far (p := ⟨gb1144, 1, none⟩) (Kd.R_far (p := ⟨gb1144, 0, none⟩) (Kd.R_types HO1134.out BK1144.out (by decide)) (fun _ hk => hk.2) (.string t1135)) (fun _ hk => hk.2) (.int .i64 t1136)) (fun _ hk => hk.2) (.slice Ao101 t1137.length co101)) (fun _ hk => hk.2) (.int .i64 t1140)) (fun _ hk => hk.2) (.slice Ao102 t1141.length co102)) (fun _ h_ => h_.1))) (Kd.R_base ho0) hb); have n3_ := Aside0.mk (Kd.R_elder' (by (with_reducible repeat (first | apply Kd.R_alloc | apply Kd.R_drewN | apply Kd.R_drew)); exact (Kd.R_mono (Kd.R_far (p := ⟨gb1144, 4, none⟩) (Kd.R_far (p := ⟨gb1144, 3, none⟩) (Kd.R_far (p := ⟨gb1144, 2, none⟩) (Kd.R_far (p := ⟨gb1144, 1, none⟩) (Kd.R_far (p := ⟨gb1144, 0, none⟩) (Kd.R_types HO1139.out BK1144.out (by decide)) (fun _ hk => hk.2) (.string t1135)) (fun _ hk => hk.2) (.int .i64 t1136)) (fun _ hk => hk.2) (.slice Ao101 t1137.length co101)) (fun _ hk => hk.2) (.int .i64 t1140)) (fun _ hk => hk.2) (.slice Ao102 t1141.length co102)) (fun _ h_ => h_.1))) (Kd.R_base ho0) hb); have n4_ := Aside0.mk (Kd.R_elder' (by (with_reducible repeat (first | apply Kd.R_alloc | apply Kd.R_drewN | apply Kd.R_drew)); exact (Kd.R_mono (Kd.R_far (p := ⟨gb1144, 4, none⟩) (Kd.R_far (p := ⟨gb1144, 3, none⟩) (Kd.R_far (p := ⟨gb1144, 2, none⟩) (Kd.R_far (p := ⟨gb1144, 1, none⟩) (Kd.R_far (p := ⟨gb1144, 0, none⟩) (Kd.R_types HO1143.out BK1144.out (by decide)) (fun _ hk => hk.2) (.string t1135)) (fun _ hk => hk.2) (.int .i64 t1136)) (fun _ hk => hk.2) (.slice Ao101 t1137.length co101)) (fun _ hk => hk.2) (.int .i64 t1140)) (fun _ hk => hk.2) (.slice Ao102 t1141.length co102)) (fun _ h_ => h_.1))) (Kd.R_base ho0) hb); have n5_ := Aside0.mk (Kd.R_lower (Kd.R_new' (Kd.R_new' (Kd.R_new' ho0 (Kd.R_lt (by (with_reducible repeat (first | apply Kd.R_alloc | apply Kd.R_drewN | apply Kd.R_drew)); exact (Kd.R_mono (Kd.R_far (p := ⟨gb1144, 4, none⟩) (Kd.R_far (p := ⟨gb1144, 3, none⟩) (Kd.R_far (p := ⟨gb1144, 2, none⟩) (Kd.R_far (p := ⟨gb1144, 1, none⟩) (Kd.R_far (p := ⟨gb1144, 0, none⟩) (Kd.R_types HO1127.out BK1144.out (by decide)) (fun _ hk => hk.2) (.string t1135)) (fun _ hk => hk.2) (.int .i64 t1136)) (fun _ hk => hk.2) (.slice Ao101 t1137.length co101)) (fun _ hk => hk.2) (.int .i64 t1140)) (fun _ hk => hk.2) (.slice Ao102 t1141.length co102)) (fun _ h_ => h_.1))))) (Kd.R_lt (by (with_reducible repeat (first | apply Kd.R_alloc | apply Kd.R_drewN | apply Kd.R_drew)); exact (Kd.R_mono (Kd.R_far (p := ⟨gb1144, 4, none⟩) (Kd.R_far (p := ⟨gb1144, 3, none⟩) (Kd.R_far (p := ⟨gb1144, 2, none⟩) (Kd.R_far (p := ⟨gb1144, 1, none⟩) (Kd.R_far (p := ⟨gb1144, 0, none⟩) (Kd.R_types HO1134.out BK1144.out (by decide)) (fun _ hk => hk.2) (.string t1135)) (fun _ hk => hk.2) (.int .i64 t1136)) (fun _ hk => hk.2) (.slice Ao101 t1137.length co101)) (fun _ hk => hk.2) (.int .i64 t1140)) (fun _ hk => hk.2) (.slice Ao102 t1141.length co102)) (fun _ h_ => h_.1))))) (Kd.R_lt (by (with_reducible repeat (first | apply Kd.R_alloc | apply Kd.R_drewN | apply Kd.R_drew)); exact (Kd.R_mono (Kd.R_far (p := ⟨gb1144, 4, none⟩) (Kd.R_far (p := ⟨gb1144, 3, none⟩) (Kd.R_far (p := ⟨gb1144, 2, none⟩) (Kd.R_far (p := ⟨gb1144, 1, none⟩) (Kd.R_far (p := ⟨gb1144, 0, none⟩) (Kd.R_types HO1139.out BK1144.out (by decide)) (fun _ hk => hk.2) (.string t1135)) (fun _ hk => hk.2) (.int .i64 t1136)) (fun _ hk => hk.2) (.slice Ao101 t1137.length co101)) (fun _ hk => hk.2) (.int .i64 t1140)) (fun _ hk => hk.2) (.slice Ao102 t1141.length co102)) (fun _ h_ => h_.1))))) (below_size (by repeat (first | (with_reducible first | exact HB.out | apply below_alloc | apply pw_below_drewN | apply below_drew1 | refine below_set ?_ GE1121.out | refine below_set ?_ GE1144.out) | exact HB.out)))); have n6_ := Aside0.mk (blk_below (g := gb1121) (o := .cells #[.string a0_0, .int .i64 a0_1, .slice A0_2 l0_2.length c0_2, .int .i64 a0_3, .slice A0_4 l0_4.length c0_4] 25 (0, 0)) (by (with_reducible repeat (first | refine blk_drewN ?_ _ | refine blk_drew ?_ | refine blk_alloc ?_ _)); refine blk_far ?_ NB1121_1144.out _; (with_reducible repeat (first | refine blk_drewN ?_ _ | refine blk_drew ?_ | refine blk_alloc ?_ _)); refine blk_far ?_ NB1121_1144.out _; (with_reducible repeat (first | refine blk_drewN ?_ _ | refine blk_drew ?_ | refine blk_alloc ?_ _)); refine blk_far ?_ NB1121_1144.out _; (with_reducible repeat (first | refine blk_drewN ?_ _ | refine blk_drew ?_ | refine blk_alloc ?_ _)); refine blk_far ?_ NB1121_1144.out _; (with_reducible repeat (first | refine blk_drewN ?_ _ | refine blk_drew ?_ | refine blk_alloc ?_ _)); refine blk_far ?_ NB1121_1144.out _; (with_reducible repeat (first | refine blk_drewN ?_ _ | refine blk_drew ?_ | refine blk_alloc ?_ _)); exact BK1121.out) hb); have n7_ := Aside0.mk (blk_below (g := gb1144) (o := .cells #[.string t1135, .int .i64 t1136, .slice Ao101 t1137.length co101, .int .i64 t1140, .slice Ao102 t1141.length co102] 30 (0, 0)) (by (with_reducible repeat (first | refine blk_drewN ?_ _ | refine blk_drew ?_ | refine blk_alloc ?_ _)); refine blk_put (cs := #[.string t1135, .int .i64 t1136, .slice Ao101 t1137.length co101, .int .i64 t1140, .slice none 0 0]) ?_ 4 _ rfl; (with_reducible repeat (first | refine blk_drewN ?_ _ | refine blk_drew ?_ | refine blk_alloc ?_ _)); refine blk_put (cs := #[.string t1135, .int .i64 t1136, .slice Ao101 t1137.length co101, .int .i64 0, .slice none 0 0]) ?_ 3 _ rfl; (with_reducible repeat (first | refine blk_drewN ?_ _ | refine blk_drew ?_ | refine blk_alloc ?_ _)); refine blk_put (cs := #[.string t1135, .int .i64 t1136, .slice none 0 0, .int .i64 0, .slice none 0 0]) ?_ 2 _ rfl; (with_reducible repeat (first | refine blk_drewN ?_ _ | refine blk_drew ?_ | refine blk_alloc ?_ _)); refine blk_put (cs := #[.string t1135, .int .i64 0, .slice none 0 0, .int .i64 0, .slice none 0 0]) ?_ 1 _ rfl; (with_reducible repeat (first | refine blk_drewN ?_ _ | refine blk_drew ?_ | refine blk_alloc ?_ _)); refine blk_put (cs := #[.string (⟨#[]⟩ : ByteArray), .int .i64 0, .slice none 0 0, .int .i64 0, .slice none 0 0]) ?_ 0 _ rfl; (with_reducible repeat (first | refine blk_drewN ?_ _ | refine blk_drew ?_ | refine blk_alloc ?_ _)); exact BK1144.out) hb); have n8_ := Aside0.mk (below_step (by repeat (first | (with_reducible first | exact HB.out | apply below_alloc | apply pw_below_drewN | apply below_drew1 | refine below_set ?_ GE1121.out | refine below_set ?_ GE1144.out) | exact HB.out)) hb); clear HO1127; clear HO1131; clear HO1134; clear HO1139; clear HO1143; clear BK1121; clear BK1144; clear HB; have HO1127 := n0_; have HO1131 := n1_; have HO1134 := n2_; have HO1139 := n3_; have HO1143 := n4_; have HO1147 := n5_; have BK1121 := n6_; have BK1144 := n7_; have HB := n8_; clear n0_ n1_ n2_ n3_ n4_ n5_ n6_ n7_ n8_; (try clear hb); (try clear hb2); (try clear hk); (try clear hi); (try clear ho0); obtain ⟨Ao104, co104, eo104⟩ := Kd.R_slice HO1147.out; subst eo104; obtain ⟨Ao105, co105, eo105⟩ := Kd.R_slice HO1134.out; subst eo105) | ((with_reducible refine gate_callee (f := 19) rfl ?_); refine goesL_ (some 29) rfl rfl Try.func19 (by kernel_rfl) rfl #[.slice Ao104 t1145.length co104, .slice Ao105 t1132.length co105] rfl (by (try simp only [List.map_toArray, List.map_cons, List.map_nil]); first | done | rfl | (simp only [List.length_drop, List.length_take]; rfl)) ?_; (with_reducible refine (laws_eqInt64S.calls k _ _ t1145 _ _ t1132 true _ ?side1 ?side2 ?side3 ?side4 A12.out).mono ?_); (case side1 => repeat (first | exact (Kd.R_reads' HO1147.out).2.2 | (with_reducible refine Kd.C_alloc ?_ _) | (with_reducible refine Kd.C_drewN ?_ _) | (with_reducible refine Kd.C_drew ?_))); (case side2 => exact (Kd.R_reads' HO1147.out).2.1); (case side3 => repeat (first | exact (Kd.R_reads' HO1134.out).2.2 | (with_reducible refine Kd.C_alloc ?_ _) | (with_reducible refine Kd.C_drewN ?_ _) | (with_reducible refine Kd.C_drew ?_))); (case side4 => exact (Kd.R_reads' HO1134.out).2.1); rintro e w' ⟨rfl, ⟨nd, rfl⟩⟩; refine ⟨_, rfl, ?_⟩))
        (try (rw [drewN_self w103]; generalize hq_ : World.drewN w103 _ = w103; have n0_ : Aside0 (Kd.R (Kd.int .i64) 2 w103 w.heap.size (fun k_ => (((True ∧ some k_ ≠ (.slice Ao105 t1132.length co105 : Value).ownBlock) ∧ some k_ ≠ (.slice Ao101 t1137.length co101 : Value).ownBlock) ∧ some k_ ≠ (.slice Ao104 t1145.length co104 : Value).ownBlock)) (.slice Ao93 t1125.length co93) t1125) := ⟨by rw [← hq_]; exact (by (with_reducible repeat (first | apply Kd.R_alloc | apply Kd.R_drewN | apply Kd.R_drew)); exact HO1127.out)⟩; have n1_ : Aside0 (Kd.R k62 62 w103 w.heap.size (fun k_ => ((((some k_ ≠ (.slice Ao93 t1125.length co93 : Value).ownBlock ∧ some k_ ≠ (.slice Ao105 t1132.length co105 : Value).ownBlock) ∧ some k_ ≠ (.slice Ao101 t1137.length co101 : Value).ownBlock) ∧ some k_ ≠ (.slice Ao102 t1141.length co102 : Value).ownBlock) ∧ some k_ ≠ (.slice Ao104 t1145.length co104 : Value).ownBlock)) (.slice Ao94 t1129.length co94) t1129) := ⟨by rw [← hq_]; exact (by (with_reducible repeat (first | apply Kd.R_alloc | apply Kd.R_drewN | apply Kd.R_drew)); exact HO1131.out)⟩; have n2_ : Aside0 (Kd.R (Kd.int .i64) 2 w103 w.heap.size (fun k_ => (((True ∧ some k_ ≠ (.slice Ao93 t1125.length co93 : Value).ownBlock) ∧ some k_ ≠ (.slice Ao101 t1137.length co101 : Value).ownBlock) ∧ some k_ ≠ (.slice Ao104 t1145.length co104 : Value).ownBlock)) (.slice Ao105 t1132.length co105) t1132) := ⟨by rw [← hq_]; exact (by (with_reducible repeat (first | apply Kd.R_alloc | apply Kd.R_drewN | apply Kd.R_drew)); exact HO1134.out)⟩; have n3_ : Aside0 (Kd.R (Kd.int .i64) 2 w103 w.heap.size (fun k_ => (((True ∧ some k_ ≠ (.slice Ao93 t1125.length co93 : Value).ownBlock) ∧ some k_ ≠ (.slice Ao105 t1132.length co105 : Value).ownBlock) ∧ some k_ ≠ (.slice Ao104 t1145.length co104 : Value).ownBlock)) (.slice Ao101 t1137.length co101) t1137) := ⟨by rw [← hq_]; exact (by (with_reducible repeat (first | apply Kd.R_alloc | apply Kd.R_drewN | apply Kd.R_drew)); exact HO1139.out)⟩; have n4_ : Aside0 (Kd.R k62 62 w103 w.heap.size (fun k_ => ((((some k_ ≠ (.slice Ao101 t1137.length co101 : Value).ownBlock ∧ some k_ ≠ (.slice Ao93 t1125.length co93 : Value).ownBlock) ∧ some k_ ≠ (.slice Ao94 t1129.length co94 : Value).ownBlock) ∧ some k_ ≠ (.slice Ao105 t1132.length co105 : Value).ownBlock) ∧ some k_ ≠ (.slice Ao104 t1145.length co104 : Value).ownBlock)) (.slice Ao102 t1141.length co102) t1141) := ⟨by rw [← hq_]; exact (by (with_reducible repeat (first | apply Kd.R_alloc | apply Kd.R_drewN | apply Kd.R_drew)); exact HO1143.out)⟩; have n5_ : Aside0 (Kd.R (Kd.int .i64) 2 w103 w.heap.size (fun k_ => (((True ∧ some k_ ≠ (.slice Ao93 t1125.length co93 : Value).ownBlock) ∧ some k_ ≠ (.slice Ao105 t1132.length co105 : Value).ownBlock) ∧ some k_ ≠ (.slice Ao101 t1137.length co101 : Value).ownBlock)) (.slice Ao104 t1145.length co104) t1145) := ⟨by rw [← hq_]; exact (by (with_reducible repeat (first | apply Kd.R_alloc | apply Kd.R_drewN | apply Kd.R_drew)); exact HO1147.out)⟩; have n6_ : Aside0 (w103.heap[gb1121]? = some (.cells #[.string a0_0, .int .i64 a0_1, .slice A0_2 l0_2.length c0_2, .int .i64 a0_3, .slice A0_4 l0_4.length c0_4] 25 (0, 0))) := ⟨by rw [← hq_]; exact (by (with_reducible repeat (first | refine blk_drewN ?_ _ | refine blk_drew ?_ | refine blk_alloc ?_ _)); exact BK1121.out)⟩; have n7_ : Aside0 (w103.heap[gb1144]? = some (.cells #[.string t1135, .int .i64 t1136, .slice Ao101 t1137.length co101, .int .i64 t1140, .slice Ao102 t1141.length co102] 30 (0, 0))) := ⟨by rw [← hq_]; exact (by (with_reducible repeat (first | refine blk_drewN ?_ _ | refine blk_drew ?_ | refine blk_alloc ?_ _)); exact BK1144.out)⟩; have n8_ : Aside0 (Below w.heap.size w w103) := ⟨by rw [← hq_]; exact (by repeat (first | (with_reducible first | exact HB.out | apply below_alloc | apply pw_below_drewN | apply below_drew1 | refine below_set ?_ GE1121.out | refine below_set ?_ GE1144.out) | exact HB.out))⟩; clear HO1127 HO1131 HO1134 HO1139 HO1143 HO1147 BK1121 BK1144 HB hq_; have HO1127 := n0_; have HO1131 := n1_; have HO1134 := n2_; have HO1139 := n3_; have HO1143 := n4_; have HO1147 := n5_; have BK1121 := n6_; have BK1144 := n7_; have HB := n8_; clear n0_ n1_ n2_ n3_ n4_ n5_ n6_ n7_ n8_))
        have n0_ := Aside0.mk (Kd.R_drew HO1127.out)
        have n1_ := Aside0.mk (Kd.R_drew HO1131.out)
        have n2_ := Aside0.mk (Kd.R_drew HO1134.out)
        have n3_ := Aside0.mk (Kd.R_drew HO1139.out)
        have n4_ := Aside0.mk (Kd.R_drew HO1143.out)
        have n5_ := Aside0.mk (Kd.R_drew HO1147.out)
        have n6_ := Aside0.mk (blk_drew BK1121.out)
        have n7_ := Aside0.mk (blk_drew BK1144.out)
        have n8_ := Aside0.mk (below_drew1 HB.out)
        clear HO1127
        clear HO1131
        clear HO1134
        clear HO1139
        clear HO1143
        clear HO1147
        clear BK1121
        clear BK1144
        clear HB
        have HO1127 := n0_
        have HO1131 := n1_
        have HO1134 := n2_
        have HO1139 := n3_
        have HO1143 := n4_
        have HO1147 := n5_
        have BK1121 := n6_
        have BK1144 := n7_
        have HB := n8_
        clear n0_ n1_ n2_ n3_ n4_ n5_ n6_ n7_ n8_
        refine start_ (n := 5) (S := fun w' => w'.cell? ⟨gb1144, 0, none⟩ = some (.string t1135) ∧ w'.cell? ⟨gb1144, 1, none⟩ = some (.int .i64 t1136) ∧ w'.cell? ⟨gb1144, 2, none⟩ = some (.slice Ao101 t1137.length co101) ∧ w'.cell? ⟨gb1144, 3, none⟩ = some (.int .i64 t1140) ∧ w'.cell? ⟨gb1144, 4, none⟩ = some (.slice Ao102 t1141.length co102) ∧ w'.cell? ⟨gb1121, 0, none⟩ = some (.string a0_0) ∧ w'.cell? ⟨gb1121, 1, none⟩ = some (.int .i64 a0_1) ∧ w'.cell? ⟨gb1121, 2, none⟩ = some (.slice A0_2 l0_2.length c0_2) ∧ w'.cell? ⟨gb1121, 3, none⟩ = some (.int .i64 a0_3) ∧ w'.cell? ⟨gb1121, 4, none⟩ = some (.slice A0_4 l0_4.length c0_4)) (ds := []) #[false, false, false, false, false] (by kernel_rfl) rfl rfl ⟨(blk_cell BK1144.out 0).trans rfl, (blk_cell BK1144.out 1).trans rfl, (blk_cell BK1144.out 2).trans rfl, (blk_cell BK1144.out 3).trans rfl, (blk_cell BK1144.out 4).trans rfl, (blk_cell BK1121.out 0).trans rfl, (blk_cell BK1121.out 1).trans rfl, (blk_cell BK1121.out 2).trans rfl, (blk_cell BK1121.out 3).trans rfl, (blk_cell BK1121.out 4).trans rfl⟩ (fun hHeld => ?_)
        generalize w103.drew = w106 at HO1127 HO1131 HO1134 HO1139 HO1143 HO1147 BK1121 BK1144 HB hHeld ⊢
        refine take_ (i := 0) (N := some 31) (v := ?_) (a' := ?_) #[true, false, false, false, false] rfl rfl (by kernel_rfl) (fun _ _ _ h => h) (Or.inl ⟨by rfl, ?_⟩) hHeld ?_ ?_
        rotate_left
        · rintro w' ⟨s0, s1, s2, s3, s4, s5, s6, s7, s8, s9⟩
          go_simp
          with_reducible rfl
        rotate_left
        · simp only [Act.put, List.setIfInBounds_toArray, List.set_cons_zero, List.set_cons_succ, i64_w, i32_w]
          rfl
        refine take_ (i := 1) (N := some 32) (v := ?_) (a' := ?_) #[true, true, false, false, false] rfl rfl (by kernel_rfl) (fun _ _ _ h => h) (Or.inl ⟨by rfl, ?_⟩) hHeld ?_ ?_
        rotate_left
        · rintro w' ⟨s0, s1, s2, s3, s4, s5, s6, s7, s8, s9⟩
          go_simp
          with_reducible rfl
        rotate_left
        · simp only [Act.put, List.setIfInBounds_toArray, List.set_cons_zero, List.set_cons_succ, i64_w, i32_w]
          rfl
        refine one_ (i := 2) (N := some 33) #[true, true, true, false, false] rfl rfl (by kernel_rfl) (by decide) (fun K hK => ?_)
        refine goes_ Try.func14 (by kernel_rfl) rfl #[.agg #[.string a0_0, .int .i64 a0_1, .slice A0_2 l0_2.length c0_2, .int .i64 a0_3, .slice A0_4 l0_4.length c0_4]] (by rfl) rfl rfl (by (try simp only [List.map_toArray, List.map_cons, List.map_nil]); first | done | rfl | (simp only [List.length_drop, List.length_take]; rfl)) ?_
        with_reducible refine (laws_toFunc.calls k a0_0 a0_1 _ _ l0_2 a0_3 _ _ l0_4 t1149 t1150 t1151 t1154 t1155 _ ?side1 ?side2 ?side3 ?side4 A14.out).mono ?_
        (case side1 => repeat (first | exact (Kd.C_below HR0_2.out HB.out) | (with_reducible refine Kd.C_alloc ?_ _) | (with_reducible refine Kd.C_drewN ?_ _) | (with_reducible refine Kd.C_drew ?_)))
        (case side2 => exact HC0_2.out)
        (case side3 => repeat (first | exact (Kd.C_below HR0_4.out HB.out) | (with_reducible refine Kd.C_alloc ?_ _) | (with_reducible refine Kd.C_drewN ?_ _) | (with_reducible refine Kd.C_drew ?_)))
        (case side4 => exact HC0_4.out)
        rintro e w107 ⟨v1152, v1156, rfl, ho0, ho1, hb⟩
        refine ⟨_, rfl, ?_⟩
        have n0_ := Aside0.mk (Kd.R_elder' (by (with_reducible repeat (first | apply Kd.R_alloc | apply Kd.R_drewN | apply Kd.R_drew)); exact HO1127.out) (Kd.R_base ho0) hb)
        have n1_ := Aside0.mk (Kd.R_mono (Kd.R_told (Kd.R_told (Kd.R_old (by (with_reducible repeat (first | apply Kd.R_alloc | apply Kd.R_drewN | apply Kd.R_drew)); exact HO1131.out) hb) (Kd.R_base ho0)) (Kd.R_base ho1)) (fun _ h_ => h_.1))
        have n2_ := Aside0.mk (Kd.R_elder' (by (with_reducible repeat (first | apply Kd.R_alloc | apply Kd.R_drewN | apply Kd.R_drew)); exact HO1134.out) (Kd.R_base ho0) hb)
        have n3_ := Aside0.mk (Kd.R_elder' (by (with_reducible repeat (first | apply Kd.R_alloc | apply Kd.R_drewN | apply Kd.R_drew)); exact HO1139.out) (Kd.R_base ho0) hb)
        have n4_ := Aside0.mk (Kd.R_mono (Kd.R_told (Kd.R_told (Kd.R_old (by (with_reducible repeat (first | apply Kd.R_alloc | apply Kd.R_drewN | apply Kd.R_drew)); exact HO1143.out) hb) (Kd.R_base ho0)) (Kd.R_base ho1)) (fun _ h_ => h_.1))
        have n5_ := Aside0.mk (Kd.R_elder' (by (with_reducible repeat (first | apply Kd.R_alloc | apply Kd.R_drewN | apply Kd.R_drew)); exact HO1147.out) (Kd.R_base ho0) hb)
        have n6_ := Aside0.mk (Kd.R_lower (Kd.R_new' (Kd.R_new' (Kd.R_new' (Kd.R_new' ho0 (Kd.R_lt (by (with_reducible repeat (first | apply Kd.R_alloc | apply Kd.R_drewN | apply Kd.R_drew)); exact HO1127.out))) (Kd.R_lt (by (with_reducible repeat (first | apply Kd.R_alloc | apply Kd.R_drewN | apply Kd.R_drew)); exact HO1134.out))) (Kd.R_lt (by (with_reducible repeat (first | apply Kd.R_alloc | apply Kd.R_drewN | apply Kd.R_drew)); exact HO1139.out))) (Kd.R_lt (by (with_reducible repeat (first | apply Kd.R_alloc | apply Kd.R_drewN | apply Kd.R_drew)); exact HO1147.out))) (below_size (by repeat (first | (with_reducible first | exact HB.out | apply below_alloc | apply pw_below_drewN | apply below_drew1 | refine below_set ?_ GE1121.out | refine below_set ?_ GE1144.out) | exact HB.out))))
        have n7_ := Aside0.mk (Kd.R_lower (Kd.R_new' (Kd.R_new' (Kd.R_new' (Kd.R_new' (Kd.R_new' (Kd.R_new' ho1 (Kd.R_lt (by (with_reducible repeat (first | apply Kd.R_alloc | apply Kd.R_drewN | apply Kd.R_drew)); exact HO1127.out))) (Kd.R_lt (by (with_reducible repeat (first | apply Kd.R_alloc | apply Kd.R_drewN | apply Kd.R_drew)); exact HO1131.out))) (Kd.R_lt (by (with_reducible repeat (first | apply Kd.R_alloc | apply Kd.R_drewN | apply Kd.R_drew)); exact HO1134.out))) (Kd.R_lt (by (with_reducible repeat (first | apply Kd.R_alloc | apply Kd.R_drewN | apply Kd.R_drew)); exact HO1139.out))) (Kd.R_lt (by (with_reducible repeat (first | apply Kd.R_alloc | apply Kd.R_drewN | apply Kd.R_drew)); exact HO1143.out))) (Kd.R_lt (by (with_reducible repeat (first | apply Kd.R_alloc | apply Kd.R_drewN | apply Kd.R_drew)); exact HO1147.out))) (below_size (by repeat (first | (with_reducible first | exact HB.out | apply below_alloc | apply pw_below_drewN | apply below_drew1 | refine below_set ?_ GE1121.out | refine below_set ?_ GE1144.out) | exact HB.out))))
        have n8_ := Aside0.mk (blk_below (g := gb1121) (o := .cells #[.string a0_0, .int .i64 a0_1, .slice A0_2 l0_2.length c0_2, .int .i64 a0_3, .slice A0_4 l0_4.length c0_4] 25 (0, 0)) (by (with_reducible repeat (first | refine blk_drewN ?_ _ | refine blk_drew ?_ | refine blk_alloc ?_ _)); exact BK1121.out) hb)
        have n9_ := Aside0.mk (blk_below (g := gb1144) (o := .cells #[.string t1135, .int .i64 t1136, .slice Ao101 t1137.length co101, .int .i64 t1140, .slice Ao102 t1141.length co102] 30 (0, 0)) (by (with_reducible repeat (first | refine blk_drewN ?_ _ | refine blk_drew ?_ | refine blk_alloc ?_ _)); exact BK1144.out) hb)
        have n10_ := Aside0.mk (below_step (by repeat (first | (with_reducible first | exact HB.out | apply below_alloc | apply pw_below_drewN | apply below_drew1 | refine below_set ?_ GE1121.out | refine below_set ?_ GE1144.out) | exact HB.out)) hb)
        clear HO1127
        clear HO1131
        clear HO1134
        clear HO1139
        clear HO1143
        clear HO1147
        clear BK1121
        clear BK1144
        clear HB
        have HO1127 := n0_
        have HO1131 := n1_
        have HO1134 := n2_
        have HO1139 := n3_
        have HO1143 := n4_
        have HO1147 := n5_
        have HO1153 := n6_
        have HO1157 := n7_
        have BK1121 := n8_
        have BK1144 := n9_
        have HB := n10_
        clear n0_ n1_ n2_ n3_ n4_ n5_ n6_ n7_ n8_ n9_ n10_
        (try clear hb)
        (try clear hb2)
        (try clear hk)
        (try clear hi)
        (try clear ho0)
        (try clear ho1)
        obtain ⟨Ao108, co108, eo108⟩ := Kd.R_slice HO1153.out
        (first | subst eo108 | (injection eo108 with f1_ f2_ f3_; have f4_ := f1_.symm; have f5_ := f3_.symm; clear f1_ f2_ f3_; subst f4_; subst f5_))
        obtain ⟨Ao109, co109, eo109⟩ := Kd.R_slice HO1157.out
        (first | subst eo109 | (injection eo109 with f1_ f2_ f3_; have f4_ := f1_.symm; have f5_ := f3_.symm; clear f1_ f2_ f3_; subst f4_; subst f5_))
        refine hK.out _ _ ⟨(blk_cell BK1144.out 0).trans rfl, (blk_cell BK1144.out 1).trans rfl, (blk_cell BK1144.out 2).trans rfl, (blk_cell BK1144.out 3).trans rfl, (blk_cell BK1144.out 4).trans rfl, (blk_cell BK1121.out 0).trans rfl, (blk_cell BK1121.out 1).trans rfl, (blk_cell BK1121.out 2).trans rfl, (blk_cell BK1121.out 3).trans rfl, (blk_cell BK1121.out 4).trans rfl⟩ (fun hHeld => ?_)
        clear hK K
        refine norm_ (a' := ?_) ?_ ?_
        rotate_left
        · show Act.put _ (some 33) _ = _
          simp only [Act.put, List.setIfInBounds_toArray, List.set_cons_zero, List.set_cons_succ, i64_w, i32_w]
          rfl
        refine one_ (i := 3) (N := some 34) #[true, true, true, true, false] rfl rfl (by kernel_rfl) (by decide) (fun K hK => ?_)
        refine goes_ Try.func16 (by kernel_rfl) rfl #[.agg #[.string t1135, .int .i64 t1136, .slice Ao101 t1137.length co101, .int .i64 t1140, .slice Ao102 t1141.length co102], .agg #[.string t1149, .int .i64 t1150, .slice Ao108 t1151.length co108, .int .i64 t1154, .slice Ao109 t1155.length co109]] (by rfl) rfl rfl (by (try simp only [List.map_toArray, List.map_cons, List.map_nil]); first | done | rfl | (simp only [List.length_drop, List.length_take]; rfl)) ?_
        with_reducible refine (laws_eqFunc.calls k t1135 t1136 _ _ t1137 t1140 _ _ t1141 t1149 t1150 _ _ t1151 t1154 _ _ t1155 false _ ?side1 ?side2 ?side3 ?side4 ?side5 ?side6 ?side7 ?side8 A15.out).mono ?_
        (case side1 => repeat (first | exact (Kd.R_reads' HO1139.out).2.2 | (with_reducible refine Kd.C_alloc ?_ _) | (with_reducible refine Kd.C_drewN ?_ _) | (with_reducible refine Kd.C_drew ?_)))
        (case side2 => exact (Kd.R_reads' HO1139.out).2.1)
        (case side3 => repeat (first | exact (Kd.R_reads' HO1143.out).2.2 | (with_reducible refine Kd.C_alloc ?_ _) | (with_reducible refine Kd.C_drewN ?_ _) | (with_reducible refine Kd.C_drew ?_)))
        (case side4 => exact (Kd.R_reads' HO1143.out).2.1)
        (case side5 => repeat (first | exact (Kd.R_reads' HO1153.out).2.2 | (with_reducible refine Kd.C_alloc ?_ _) | (with_reducible refine Kd.C_drewN ?_ _) | (with_reducible refine Kd.C_drew ?_)))
        (case side6 => exact (Kd.R_reads' HO1153.out).2.1)
        (case side7 => repeat (first | exact (Kd.R_reads' HO1157.out).2.2 | (with_reducible refine Kd.C_alloc ?_ _) | (with_reducible refine Kd.C_drewN ?_ _) | (with_reducible refine Kd.C_drew ?_)))
        (case side8 => exact (Kd.R_reads' HO1157.out).2.1)
        rintro e w110 ⟨rfl, hb⟩
        refine ⟨_, rfl, ?_⟩
        have n0_ := Aside0.mk (Kd.R_below (by (with_reducible repeat (first | apply Kd.R_alloc | apply Kd.R_drewN | apply Kd.R_drew)); exact HO1127.out) hb)
        have n1_ := Aside0.mk (Kd.R_below (by (with_reducible repeat (first | apply Kd.R_alloc | apply Kd.R_drewN | apply Kd.R_drew)); exact HO1131.out) hb)
        have n2_ := Aside0.mk (Kd.R_below (by (with_reducible repeat (first | apply Kd.R_alloc | apply Kd.R_drewN | apply Kd.R_drew)); exact HO1134.out) hb)
        have n3_ := Aside0.mk (Kd.R_below (by (with_reducible repeat (first | apply Kd.R_alloc | apply Kd.R_drewN | apply Kd.R_drew)); exact HO1139.out) hb)
        have n4_ := Aside0.mk (Kd.R_below (by (with_reducible repeat (first | apply Kd.R_alloc | apply Kd.R_drewN | apply Kd.R_drew)); exact HO1143.out) hb)
        have n5_ := Aside0.mk (Kd.R_below (by (with_reducible repeat (first | apply Kd.R_alloc | apply Kd.R_drewN | apply Kd.R_drew)); exact HO1147.out) hb)
        have n6_ := Aside0.mk (Kd.R_below (by (with_reducible repeat (first | apply Kd.R_alloc | apply Kd.R_drewN | apply Kd.R_drew)); exact HO1153.out) hb)
        have n7_ := Aside0.mk (Kd.R_below (by (with_reducible repeat (first | apply Kd.R_alloc | apply Kd.R_drewN | apply Kd.R_drew)); exact HO1157.out) hb)
        have n8_ := Aside0.mk (blk_below (g := gb1121) (o := .cells #[.string a0_0, .int .i64 a0_1, .slice A0_2 l0_2.length c0_2, .int .i64 a0_3, .slice A0_4 l0_4.length c0_4] 25 (0, 0)) (by (with_reducible repeat (first | refine blk_drewN ?_ _ | refine blk_drew ?_ | refine blk_alloc ?_ _)); exact BK1121.out) hb)
        have n9_ := Aside0.mk (blk_below (g := gb1144) (o := .cells #[.string t1135, .int .i64 t1136, .slice Ao101 t1137.length co101, .int .i64 t1140, .slice Ao102 t1141.length co102] 30 (0, 0)) (by (with_reducible repeat (first | refine blk_drewN ?_ _ | refine blk_drew ?_ | refine blk_alloc ?_ _)); exact BK1144.out) hb)
        have n10_ := Aside0.mk (below_step (by repeat (first | (with_reducible first | exact HB.out | apply below_alloc | apply pw_below_drewN | apply below_drew1 | refine below_set ?_ GE1121.out | refine below_set ?_ GE1144.out) | exact HB.out)) hb)
        clear HO1127
        clear HO1131
        clear HO1134
        clear HO1139
        clear HO1143
        clear HO1147
        clear HO1153
        clear HO1157
        clear BK1121
        clear BK1144
        clear HB
        have HO1127 := n0_
        have HO1131 := n1_
        have HO1134 := n2_
        have HO1139 := n3_
        have HO1143 := n4_
        have HO1147 := n5_
        have HO1153 := n6_
        have HO1157 := n7_
        have BK1121 := n8_
        have BK1144 := n9_
        have HB := n10_
        clear n0_ n1_ n2_ n3_ n4_ n5_ n6_ n7_ n8_ n9_ n10_
        (try clear hb)
        (try clear hb2)
        (try clear hk)
        (try clear hi)
        refine hK.out _ _ ⟨(blk_cell BK1144.out 0).trans rfl, (blk_cell BK1144.out 1).trans rfl, (blk_cell BK1144.out 2).trans rfl, (blk_cell BK1144.out 3).trans rfl, (blk_cell BK1144.out 4).trans rfl, (blk_cell BK1121.out 0).trans rfl, (blk_cell BK1121.out 1).trans rfl, (blk_cell BK1121.out 2).trans rfl, (blk_cell BK1121.out 3).trans rfl, (blk_cell BK1121.out 4).trans rfl⟩ (fun hHeld => ?_)
        clear hK K
        refine norm_ (a' := ?_) ?_ ?_
        rotate_left
        · show Act.put _ (some 34) _ = _
          simp only [Act.put, List.setIfInBounds_toArray, List.set_cons_zero, List.set_cons_succ, i64_w, i32_w]
          rfl
        refine pure_ (i := 4) (N := some 35) (v := ?_) (a' := ?_) #[true, true, true, true, true] rfl rfl (by kernel_rfl) (fun _ _ _ h => h) (Or.inl ⟨by rfl, ?_⟩) ?_ ?_
        rotate_left
        · intro w'
          go_simp
          with_reducible rfl
        rotate_left
        · simp only [Act.put, List.setIfInBounds_toArray, List.set_cons_zero, List.set_cons_succ, i64_w, i32_w]
          rfl
        refine done_ (by kernel_rfl) ?_
        try go_wp2
        go_ret
        exact ⟨by first | rfl | (simp [errW_none, errW_some] <;> rfl) | (simp [*, errW_none, errW_some] <;> rfl), by repeat (first | (with_reducible first | exact HB.out | apply below_alloc | apply pw_below_drewN | apply below_drew1 | refine below_set ?_ GE1121.out | refine below_set ?_ GE1144.out) | exact HB.out)⟩
    · replace c13 := Bool.eq_false_iff.mpr c13
      subst c13
      have H1 : (some false) = some r := by rw [if_neg (show ¬ (false = true) by decide)] at H; exact H
      clear H
      have H := H1
      clear H1
      obtain rfl := Option.some.inj H
      go_enter Try.func5, Try.ntmps5
      go_wp2_with (first | ((with_reducible refine gate_dst (N := 2) rfl ?_); refine box_event ?hg (N := 2) ?hd (cs := #[.string a0_0, .int .i64 a0_1, .slice A0_2 l0_2.length c0_2, .int .i64 a0_3, .slice A0_4 l0_4.length c0_4]) (t := 25) ?hr ?_; (case hd => rfl); (case hg => rfl); (case hr => first | (go_simp; done) | (go_simp; rfl)); intro gb1121 hg w111 hbox hb; have n0_ := Aside0.mk (below_step (by repeat (first | (with_reducible first | exact HB.out | apply below_alloc | apply pw_below_drewN | apply below_drew1) | exact HB.out)) hb); have n1_ := Aside0.mk (hbox); have n2_ := Aside0.mk ((by rw [hg]; exact (below_size (by repeat (first | (with_reducible first | exact HB.out | apply below_alloc | apply pw_below_drewN | apply below_drew1) | exact HB.out))) : w.heap.size ≤ gb1121)); have n3_ := Aside0.mk ((by rw [hg]; exact (below_size (by repeat (first | (with_reducible first | exact HB.out | apply below_alloc | apply pw_below_drewN | apply below_drew1) | exact HB.out))) : w.heap.size ≤ gb1121)); clear HB; have HB := n0_; have BK1121 := n1_; have GW1121 := n2_; have GE1121 := n3_; clear n0_ n1_ n2_ n3_; clear hb hbox hg; have hcz112_0 : w111.cell? ⟨gb1121, 0, none⟩ = some (.string a0_0) := (blk_cell BK1121.out 0).trans rfl; have hcz112_1 : w111.cell? ⟨gb1121, 1, none⟩ = some (.int .i64 a0_1) := (blk_cell BK1121.out 1).trans rfl; have hcz112_2 : w111.cell? ⟨gb1121, 2, none⟩ = some (.slice A0_2 l0_2.length c0_2) := (blk_cell BK1121.out 2).trans rfl; have hcz112_3 : w111.cell? ⟨gb1121, 3, none⟩ = some (.int .i64 a0_3) := (blk_cell BK1121.out 3).trans rfl; have hcz112_4 : w111.cell? ⟨gb1121, 4, none⟩ = some (.slice A0_4 l0_4.length c0_4) := (blk_cell BK1121.out 4).trans rfl; have hfz112_0 := blk_frozen BK1121.out 0; have hfz112_1 := blk_frozen BK1121.out 1; have hfz112_2 := blk_frozen BK1121.out 2; have hfz112_3 := blk_frozen BK1121.out 3; have hfz112_4 := blk_frozen BK1121.out 4) | ((with_reducible refine gate_callee (f := 12) rfl ?_); refine goesL_ (some 15) rfl rfl Try.func12 (by kernel_rfl) rfl #[.agg #[.string a0_0, .int .i64 a0_1, .slice A0_2 l0_2.length c0_2, .int .i64 a0_3, .slice A0_4 l0_4.length c0_4], .int .i64 1048576] rfl (by (try simp only [List.map_toArray, List.map_cons, List.map_nil]); first | done | rfl | (simp only [List.length_drop, List.length_take]; rfl)) ?_; (with_reducible refine (laws_szFunc.calls k a0_0 a0_1 _ _ l0_2 a0_3 _ _ l0_4 1048576 t1122 _ ?side1 ?side2 ?side3 ?side4 A3.out).mono ?_); (case side1 => repeat (first | exact (Kd.C_below HR0_2.out HB.out) | (with_reducible refine Kd.C_alloc ?_ _) | (with_reducible refine Kd.C_drewN ?_ _) | (with_reducible refine Kd.C_drew ?_))); (case side2 => exact HC0_2.out); (case side3 => repeat (first | exact (Kd.C_below HR0_4.out HB.out) | (with_reducible refine Kd.C_alloc ?_ _) | (with_reducible refine Kd.C_drewN ?_ _) | (with_reducible refine Kd.C_drew ?_))); (case side4 => exact HC0_4.out); rintro e w113 ⟨rfl, hb⟩; refine ⟨_, rfl, ?_⟩; have n0_ := Aside0.mk (blk_below (g := gb1121) (o := .cells #[.string a0_0, .int .i64 a0_1, .slice A0_2 l0_2.length c0_2, .int .i64 a0_3, .slice A0_4 l0_4.length c0_4] 25 (0, 0)) (by (with_reducible repeat (first | refine blk_drewN ?_ _ | refine blk_drew ?_ | refine blk_alloc ?_ _)); exact BK1121.out) hb); have n1_ := Aside0.mk (below_step (by repeat (first | (with_reducible first | exact HB.out | apply below_alloc | apply pw_below_drewN | apply below_drew1 | refine below_set ?_ GE1121.out) | exact HB.out)) hb); clear BK1121; clear HB; have BK1121 := n0_; have HB := n1_; clear n0_ n1_; (try clear hb); (try clear hb2); (try clear hk); (try clear hi); have hcz114_0 : w113.cell? ⟨gb1121, 0, none⟩ = some (.string a0_0) := (blk_cell BK1121.out 0).trans rfl; have hcz114_1 : w113.cell? ⟨gb1121, 1, none⟩ = some (.int .i64 a0_1) := (blk_cell BK1121.out 1).trans rfl; have hcz114_2 : w113.cell? ⟨gb1121, 2, none⟩ = some (.slice A0_2 l0_2.length c0_2) := (blk_cell BK1121.out 2).trans rfl; have hcz114_3 : w113.cell? ⟨gb1121, 3, none⟩ = some (.int .i64 a0_3) := (blk_cell BK1121.out 3).trans rfl; have hcz114_4 : w113.cell? ⟨gb1121, 4, none⟩ = some (.slice A0_4 l0_4.length c0_4) := (blk_cell BK1121.out 4).trans rfl; have hfz114_0 := blk_frozen BK1121.out 0; have hfz114_1 := blk_frozen BK1121.out 1; have hfz114_2 := blk_frozen BK1121.out 2; have hfz114_3 := blk_frozen BK1121.out 3; have hfz114_4 := blk_frozen BK1121.out 4) | ((with_reducible refine gate_callee (f := 14) rfl ?_); refine goesL_ (some 19) rfl rfl Try.func14 (by kernel_rfl) rfl #[.agg #[.string a0_0, .int .i64 a0_1, .slice A0_2 l0_2.length c0_2, .int .i64 a0_3, .slice A0_4 l0_4.length c0_4]] rfl (by (try simp only [List.map_toArray, List.map_cons, List.map_nil]); first | done | rfl | (simp only [List.length_drop, List.length_take]; rfl)) ?_; (with_reducible refine (laws_toFunc.calls k a0_0 a0_1 _ _ l0_2 a0_3 _ _ l0_4 t1123 t1124 t1125 t1128 t1129 _ ?side1 ?side2 ?side3 ?side4 A8.out).mono ?_); (case side1 => repeat (first | exact (Kd.C_below HR0_2.out HB.out) | (with_reducible refine Kd.C_alloc ?_ _) | (with_reducible refine Kd.C_drewN ?_ _) | (with_reducible refine Kd.C_drew ?_))); (case side2 => exact HC0_2.out); (case side3 => repeat (first | exact (Kd.C_below HR0_4.out HB.out) | (with_reducible refine Kd.C_alloc ?_ _) | (with_reducible refine Kd.C_drewN ?_ _) | (with_reducible refine Kd.C_drew ?_))); (case side4 => exact HC0_4.out); rintro e w115 ⟨v1126, v1130, rfl, ho0, ho1, hb⟩; refine ⟨_, rfl, ?_⟩; have n0_ := Aside0.mk (Kd.R_lower ho0 (below_size (by repeat (first | (with_reducible first | exact HB.out | apply below_alloc | apply pw_below_drewN | apply below_drew1 | refine below_set ?_ GE1121.out) | exact HB.out)))); have n1_ := Aside0.mk (Kd.R_lower ho1 (below_size (by repeat (first | (with_reducible first | exact HB.out | apply below_alloc | apply pw_below_drewN | apply below_drew1 | refine below_set ?_ GE1121.out) | exact HB.out)))); have n2_ := Aside0.mk (blk_below (g := gb1121) (o := .cells #[.string a0_0, .int .i64 a0_1, .slice A0_2 l0_2.length c0_2, .int .i64 a0_3, .slice A0_4 l0_4.length c0_4] 25 (0, 0)) (by (with_reducible repeat (first | refine blk_drewN ?_ _ | refine blk_drew ?_ | refine blk_alloc ?_ _)); exact BK1121.out) hb); have n3_ := Aside0.mk (below_step (by repeat (first | (with_reducible first | exact HB.out | apply below_alloc | apply pw_below_drewN | apply below_drew1 | refine below_set ?_ GE1121.out) | exact HB.out)) hb); clear BK1121; clear HB; have HO1127 := n0_; have HO1131 := n1_; have BK1121 := n2_; have HB := n3_; clear n0_ n1_ n2_ n3_; (try clear hb); (try clear hb2); (try clear hk); (try clear hi); (try clear ho0); (try clear ho1); obtain ⟨Ao116, co116, eo116⟩ := Kd.R_slice HO1127.out; subst eo116; obtain ⟨Ao117, co117, eo117⟩ := Kd.R_slice HO1131.out; subst eo117) | ((with_reducible refine gate_callee (f := 23) rfl ?_); refine goesL_ (some 21) rfl rfl Try.func23 (by kernel_rfl) rfl #[.agg #[.string t1123, .int .i64 t1124, .slice Ao116 t1125.length co116, .int .i64 t1128, .slice Ao117 t1129.length co117], .int .i64 a1] rfl (by (try simp only [List.map_toArray, List.map_cons, List.map_nil]); first | done | rfl | (simp only [List.length_drop, List.length_take]; rfl)) ?_; (with_reducible refine (spec_PrevBlocks.calls k t1123 t1124 _ _ t1125 t1128 _ _ t1129 a1 t1132 _ ?side1 ?side2 ?side3 ?side4 A9.out).mono ?_); (case side1 => repeat (first | exact (Kd.R_reads' HO1127.out).2.2 | (with_reducible refine Kd.C_alloc ?_ _) | (with_reducible refine Kd.C_drewN ?_ _) | (with_reducible refine Kd.C_drew ?_))); (case side2 => exact (Kd.R_reads' HO1127.out).2.1); (case side3 => repeat (first | exact (Kd.R_reads' HO1131.out).2.2 | (with_reducible refine Kd.C_alloc ?_ _) | (with_reducible refine Kd.C_drewN ?_ _) | (with_reducible refine Kd.C_drew ?_))); (case side4 => exact (Kd.R_reads' HO1131.out).2.1); rintro e w118 ⟨v1133, rfl, ho0, hb⟩; refine ⟨_, rfl, ?_⟩; have n0_ := Aside0.mk (Kd.R_elder' (by (with_reducible repeat (first | apply Kd.R_alloc | apply Kd.R_drewN | apply Kd.R_drew)); exact HO1127.out) (Kd.R_base ho0) hb); have n1_ := Aside0.mk (Kd.R_elder' (by (with_reducible repeat (first | apply Kd.R_alloc | apply Kd.R_drewN | apply Kd.R_drew)); exact HO1131.out) (Kd.R_base ho0) hb); have n2_ := Aside0.mk (Kd.R_lower (Kd.R_new' ho0 (Kd.R_lt (by (with_reducible repeat (first | apply Kd.R_alloc | apply Kd.R_drewN | apply Kd.R_drew)); exact HO1127.out))) (below_size (by repeat (first | (with_reducible first | exact HB.out | apply below_alloc | apply pw_below_drewN | apply below_drew1 | refine below_set ?_ GE1121.out) | exact HB.out)))); have n3_ := Aside0.mk (blk_below (g := gb1121) (o := .cells #[.string a0_0, .int .i64 a0_1, .slice A0_2 l0_2.length c0_2, .int .i64 a0_3, .slice A0_4 l0_4.length c0_4] 25 (0, 0)) (by (with_reducible repeat (first | refine blk_drewN ?_ _ | refine blk_drew ?_ | refine blk_alloc ?_ _)); exact BK1121.out) hb); have n4_ := Aside0.mk (below_step (by repeat (first | (with_reducible first | exact HB.out | apply below_alloc | apply pw_below_drewN | apply below_drew1 | refine below_set ?_ GE1121.out) | exact HB.out)) hb); clear HO1127; clear HO1131; clear BK1121; clear HB; have HO1127 := n0_; have HO1131 := n1_; have HO1134 := n2_; have BK1121 := n3_; have HB := n4_; clear n0_ n1_ n2_ n3_ n4_; (try clear hb); (try clear hb2); (try clear hk); (try clear hi); (try clear ho0); have hcz119_0 : w118.cell? ⟨gb1121, 0, none⟩ = some (.string a0_0) := (blk_cell BK1121.out 0).trans rfl; have hcz119_1 : w118.cell? ⟨gb1121, 1, none⟩ = some (.int .i64 a0_1) := (blk_cell BK1121.out 1).trans rfl; have hcz119_2 : w118.cell? ⟨gb1121, 2, none⟩ = some (.slice A0_2 l0_2.length c0_2) := (blk_cell BK1121.out 2).trans rfl; have hcz119_3 : w118.cell? ⟨gb1121, 3, none⟩ = some (.int .i64 a0_3) := (blk_cell BK1121.out 3).trans rfl; have hcz119_4 : w118.cell? ⟨gb1121, 4, none⟩ = some (.slice A0_4 l0_4.length c0_4) := (blk_cell BK1121.out 4).trans rfl; have hfz119_0 := blk_frozen BK1121.out 0; have hfz119_1 := blk_frozen BK1121.out 1; have hfz119_2 := blk_frozen BK1121.out 2; have hfz119_3 := blk_frozen BK1121.out 3; have hfz119_4 := blk_frozen BK1121.out 4) | ((with_reducible refine gate_callee (f := 14) rfl ?_); refine goesL_ (some 23) rfl rfl Try.func14 (by kernel_rfl) rfl #[.agg #[.string a0_0, .int .i64 a0_1, .slice A0_2 l0_2.length c0_2, .int .i64 a0_3, .slice A0_4 l0_4.length c0_4]] rfl (by (try simp only [List.map_toArray, List.map_cons, List.map_nil]); first | done | rfl | (simp only [List.length_drop, List.length_take]; rfl)) ?_; (with_reducible refine (laws_toFunc.calls k a0_0 a0_1 _ _ l0_2 a0_3 _ _ l0_4 t1135 t1136 t1137 t1140 t1141 _ ?side1 ?side2 ?side3 ?side4 A10.out).mono ?_); (case side1 => repeat (first | exact (Kd.C_below HR0_2.out HB.out) | (with_reducible refine Kd.C_alloc ?_ _) | (with_reducible refine Kd.C_drewN ?_ _) | (with_reducible refine Kd.C_drew ?_))); (case side2 => exact HC0_2.out); (case side3 => repeat (first | exact (Kd.C_below HR0_4.out HB.out) | (with_reducible refine Kd.C_alloc ?_ _) | (with_reducible refine Kd.C_drewN ?_ _) | (with_reducible refine Kd.C_drew ?_))); (case side4 => exact HC0_4.out); rintro e w120 ⟨v1138, v1142, rfl, ho0, ho1, hb⟩; refine ⟨_, rfl, ?_⟩; have n0_ := Aside0.mk (Kd.R_elder' (by (with_reducible repeat (first | apply Kd.R_alloc | apply Kd.R_drewN | apply Kd.R_drew)); exact HO1127.out) (Kd.R_base ho0) hb); have n1_ := Aside0.mk (Kd.R_mono (Kd.R_told (Kd.R_told (Kd.R_old (by (with_reducible repeat (first | apply Kd.R_alloc | apply Kd.R_drewN | apply Kd.R_drew)); exact HO1131.out) hb) (Kd.R_base ho0)) (Kd.R_base ho1)) (fun _ h_ => h_.1)); have n2_ := Aside0.mk (Kd.R_elder' (by (with_reducible repeat (first | apply Kd.R_alloc | apply Kd.R_drewN | apply Kd.R_drew)); exact HO1134.out) (Kd.R_base ho0) hb); have n3_ := Aside0.mk (Kd.R_lower (Kd.R_new' (Kd.R_new' ho0 (Kd.R_lt (by (with_reducible repeat (first | apply Kd.R_alloc | apply Kd.R_drewN | apply Kd.R_drew)); exact HO1127.out))) (Kd.R_lt (by (with_reducible repeat (first | apply Kd.R_alloc | apply Kd.R_drewN | apply Kd.R_drew)); exact HO1134.out))) (below_size (by repeat (first | (with_reducible first | exact HB.out | apply below_alloc | apply pw_below_drewN | apply below_drew1 | refine below_set ?_ GE1121.out) | exact HB.out)))); have n4_ := Aside0.mk (Kd.R_lower (Kd.R_new' (Kd.R_new' (Kd.R_new' ho1 (Kd.R_lt (by (with_reducible repeat (first | apply Kd.R_alloc | apply Kd.R_drewN | apply Kd.R_drew)); exact HO1127.out))) (Kd.R_lt (by (with_reducible repeat (first | apply Kd.R_alloc | apply Kd.R_drewN | apply Kd.R_drew)); exact HO1131.out))) (Kd.R_lt (by (with_reducible repeat (first | apply Kd.R_alloc | apply Kd.R_drewN | apply Kd.R_drew)); exact HO1134.out))) (below_size (by repeat (first | (with_reducible first | exact HB.out | apply below_alloc | apply pw_below_drewN | apply below_drew1 | refine below_set ?_ GE1121.out) | exact HB.out)))); have n5_ := Aside0.mk (blk_below (g := gb1121) (o := .cells #[.string a0_0, .int .i64 a0_1, .slice A0_2 l0_2.length c0_2, .int .i64 a0_3, .slice A0_4 l0_4.length c0_4] 25 (0, 0)) (by (with_reducible repeat (first | refine blk_drewN ?_ _ | refine blk_drew ?_ | refine blk_alloc ?_ _)); exact BK1121.out) hb); have n6_ := Aside0.mk (below_step (by repeat (first | (with_reducible first | exact HB.out | apply below_alloc | apply pw_below_drewN | apply below_drew1 | refine below_set ?_ GE1121.out) | exact HB.out)) hb); clear HO1127; clear HO1131; clear HO1134; clear BK1121; clear HB; have HO1127 := n0_; have HO1131 := n1_; have HO1134 := n2_; have HO1139 := n3_; have HO1143 := n4_; have BK1121 := n5_; have HB := n6_; clear n0_ n1_ n2_ n3_ n4_ n5_ n6_; (try clear hb); (try clear hb2); (try clear hk); (try clear hi); (try clear ho0); (try clear ho1)) | ((with_reducible refine gate_dst (N := 7) rfl ?_); refine box_event ?hg (N := 7) ?hd (cs := #[.string (⟨#[]⟩ : ByteArray), .int .i64 0, .slice none 0 0, .int .i64 0, .slice none 0 0]) (t := 30) ?hr ?_; (case hd => rfl); (case hg => rfl); (case hr => first | (go_simp; done) | (go_simp; rfl)); intro gb1144 hg w121 hbox hb; have n0_ := Aside0.mk (Kd.R_below (by (with_reducible repeat (first | apply Kd.R_alloc | apply Kd.R_drewN | apply Kd.R_drew)); exact HO1127.out) hb); have n1_ := Aside0.mk (Kd.R_below (by (with_reducible repeat (first | apply Kd.R_alloc | apply Kd.R_drewN | apply Kd.R_drew)); exact HO1131.out) hb); have n2_ := Aside0.mk (Kd.R_below (by (with_reducible repeat (first | apply Kd.R_alloc | apply Kd.R_drewN | apply Kd.R_drew)); exact HO1134.out) hb); have n3_ := Aside0.mk (Kd.R_below (by (with_reducible repeat (first | apply Kd.R_alloc | apply Kd.R_drewN | apply Kd.R_drew)); exact HO1139.out) hb); have n4_ := Aside0.mk (Kd.R_below (by (with_reducible repeat (first | apply Kd.R_alloc | apply Kd.R_drewN | apply Kd.R_drew)); exact HO1143.out) hb); have n5_ := Aside0.mk (blk_below (g := gb1121) (o := .cells #[.string a0_0, .int .i64 a0_1, .slice A0_2 l0_2.length c0_2, .int .i64 a0_3, .slice A0_4 l0_4.length c0_4] 25 (0, 0)) (by (with_reducible repeat (first | refine blk_drewN ?_ _ | refine blk_drew ?_ | refine blk_alloc ?_ _)); exact BK1121.out) hb); have n6_ := Aside0.mk (below_step (by repeat (first | (with_reducible first | exact HB.out | apply below_alloc | apply pw_below_drewN | apply below_drew1 | refine below_set ?_ GE1121.out) | exact HB.out)) hb); have n7_ := Aside0.mk (hbox); have n8_ := Aside0.mk ((by rw [hg]; exact (below_size (by repeat (first | (with_reducible first | exact HB.out | apply below_alloc | apply pw_below_drewN | apply below_drew1 | refine below_set ?_ GE1121.out) | exact HB.out))) : w.heap.size ≤ gb1144)); have n9_ := Aside0.mk ((by rw [hg]; exact (below_size (by repeat (first | (with_reducible first | exact HB.out | apply below_alloc | apply pw_below_drewN | apply below_drew1 | refine below_set ?_ GE1121.out) | exact HB.out))) : w.heap.size ≤ gb1144)); have n10_ := Aside0.mk ((by rw [hg]; exact Nat.ne_of_lt (blk_lt (g := gb1121) (o := .cells #[.string a0_0, .int .i64 a0_1, .slice A0_2 l0_2.length c0_2, .int .i64 a0_3, .slice A0_4 l0_4.length c0_4] 25 (0, 0)) (by (with_reducible repeat (first | refine blk_drewN ?_ _ | refine blk_drew ?_ | refine blk_alloc ?_ _)); exact BK1121.out)) : gb1121 ≠ gb1144)); have n11_ := Aside0.mk ((by rw [hg]; exact Nat.ne_of_gt (blk_lt (g := gb1121) (o := .cells #[.string a0_0, .int .i64 a0_1, .slice A0_2 l0_2.length c0_2, .int .i64 a0_3, .slice A0_4 l0_4.length c0_4] 25 (0, 0)) (by (with_reducible repeat (first | refine blk_drewN ?_ _ | refine blk_drew ?_ | refine blk_alloc ?_ _)); exact BK1121.out)) : gb1144 ≠ gb1121)); clear HO1127; clear HO1131; clear HO1134; clear HO1139; clear HO1143; clear BK1121; clear HB; have HO1127 := n0_; have HO1131 := n1_; have HO1134 := n2_; have HO1139 := n3_; have HO1143 := n4_; have BK1121 := n5_; have HB := n6_; have BK1144 := n7_; have GW1144 := n8_; have GE1144 := n9_; have NB1121_1144 := n10_; have NB1144_1121 := n11_; clear n0_ n1_ n2_ n3_ n4_ n5_ n6_ n7_ n8_ n9_ n10_ n11_; clear hb hbox hg; have hnb122 := NB1144_1121.out; have hnc122 := NB1121_1144.out; have hcz123_0 : w121.cell? ⟨gb1144, 0, none⟩ = some (.string (⟨#[]⟩ : ByteArray)) := (blk_cell BK1144.out 0).trans rfl; have hcz123_1 : w121.cell? ⟨gb1144, 1, none⟩ = some (.int .i64 0) := (blk_cell BK1144.out 1).trans rfl; have hcz123_2 : w121.cell? ⟨gb1144, 2, none⟩ = some (.slice none 0 0) := (blk_cell BK1144.out 2).trans rfl; have hcz123_3 : w121.cell? ⟨gb1144, 3, none⟩ = some (.int .i64 0) := (blk_cell BK1144.out 3).trans rfl; have hcz123_4 : w121.cell? ⟨gb1144, 4, none⟩ = some (.slice none 0 0) := (blk_cell BK1144.out 4).trans rfl; have hfz123_0 := blk_frozen BK1144.out 0; have hfz123_1 := blk_frozen BK1144.out 1; have hfz123_2 := blk_frozen BK1144.out 2; have hfz123_3 := blk_frozen BK1144.out 3; have hfz123_4 := blk_frozen BK1144.out 4; obtain ⟨Ao124, co124, eo124⟩ := Kd.R_slice HO1139.out; subst eo124; obtain ⟨Ao125, co125, eo125⟩ := Kd.R_slice HO1143.out; subst eo125) | ((with_reducible refine gate_callee (f := 24) rfl ?_); refine goesL_ (some 26) rfl rfl Try.func24 (by kernel_rfl) rfl #[.agg #[.string t1135, .int .i64 t1136, .slice Ao124 t1137.length co124, .int .i64 t1140, .slice Ao125 t1141.length co125], .int .i64 a1] rfl (by (try simp only [List.map_toArray, List.map_cons, List.map_nil]); first | done | rfl | (simp only [List.length_drop, List.length_take]; rfl)) ?_; (with_reducible refine (impl_PrevBlocks.calls k t1135 t1136 _ _ t1137 t1140 _ _ t1141 a1 t1145 _ ?side1 ?side2 ?side3 ?side4 A11.out).mono ?_); (case side1 => refine (Kd.R_reads' (e := 2) (base := w.heap.size) (ok := fun k_ => ((True ∧ some k_ ≠ (.slice Ao116 t1125.length co116 : Value).ownBlock) ∧ some k_ ≠ (v1133 : Value).ownBlock)) (n := t1137.length) (c := co124) ?_).2.2; exact (by (with_reducible repeat (first | apply Kd.R_alloc | apply Kd.R_drewN | apply Kd.R_drew)); exact (Kd.R_mono (Kd.R_far (p := ⟨gb1144, 4, none⟩) (Kd.R_far (p := ⟨gb1144, 3, none⟩) (Kd.R_far (p := ⟨gb1144, 2, none⟩) (Kd.R_far (p := ⟨gb1144, 1, none⟩) (Kd.R_far (p := ⟨gb1144, 0, none⟩) (Kd.R_types HO1139.out BK1144.out (by decide)) (fun _ hk => hk.2) (.string t1135)) (fun _ hk => hk.2) (.int .i64 t1136)) (fun _ hk => hk.2) (.slice Ao124 t1137.length co124)) (fun _ hk => hk.2) (.int .i64 t1140)) (fun _ hk => hk.2) (.slice Ao125 t1141.length co125)) (fun _ h_ => h_.1)))); (case side2 => exact (Kd.R_reads' HO1139.out).2.1); (case side3 => refine (Kd.R_reads' (e := 62) (base := w.heap.size) (ok := fun k_ => (((some k_ ≠ (.slice Ao124 t1137.length co124 : Value).ownBlock ∧ some k_ ≠ (.slice Ao116 t1125.length co116 : Value).ownBlock) ∧ some k_ ≠ (.slice Ao117 t1129.length co117 : Value).ownBlock) ∧ some k_ ≠ (v1133 : Value).ownBlock)) (n := t1141.length) (c := co125) ?_).2.2; exact (by (with_reducible repeat (first | apply Kd.R_alloc | apply Kd.R_drewN | apply Kd.R_drew)); exact (Kd.R_mono (Kd.R_far (p := ⟨gb1144, 4, none⟩) (Kd.R_far (p := ⟨gb1144, 3, none⟩) (Kd.R_far (p := ⟨gb1144, 2, none⟩) (Kd.R_far (p := ⟨gb1144, 1, none⟩) (Kd.R_far (p := ⟨gb1144, 0, none⟩) (Kd.R_types HO1143.out BK1144.out (by decide)) (fun _ hk => hk.2) (.string t1135)) (fun _ hk => hk.2) (.int .i64 t1136)) (fun _ hk => hk.2) (.slice Ao124 t1137.length co124)) (fun _ hk => hk.2) (.int .i64 t1140)) (fun _ hk => hk.2) (.slice Ao125 t1141.length co125)) (fun _ h_ => h_.1)))); (case side4 => exact (Kd.R_reads' HO1143.out).2.1); rintro e w126 ⟨v1146, rfl, ho0, hb⟩; refine ⟨_, rfl, ?_⟩; have n0_ := Aside0.mk (Kd.R_elder' (by (with_reducible repeat (first | apply Kd.R_alloc | apply Kd.R_drewN | apply Kd.R_drew)); exact (Kd.R_mono (Kd.R_far (p := ⟨gb1144, 4, none⟩) (Kd.R_far (p := ⟨gb1144, 3, none⟩) (Kd.R_far (p := ⟨gb1144, 2, none⟩) (Kd.R_far (p := ⟨gb1144, 1, none⟩) (Kd.R_far (p := ⟨gb1144, 0, none⟩) (Kd.R_types HO1127.out BK1144.out (by decide)) (fun _ hk => hk.2) (.string t1135)) (fun _ hk => hk.2) (.int .i64 t1136)) (fun _ hk => hk.2) (.slice Ao124 t1137.length co124)) (fun _ hk => hk.2) (.int .i64 t1140)) (fun _ hk => hk.2) (.slice Ao125 t1141.length co125)) (fun _ h_ => h_.1))) (Kd.R_base ho0) hb); have n1_ := Aside0.mk (Kd.R_elder' (by (with_reducible repeat (first | apply Kd.R_alloc | apply Kd.R_drewN | apply Kd.R_drew)); exact (Kd.R_mono (Kd.R_far (p := ⟨gb1144, 4, none⟩) (Kd.R_far (p := ⟨gb1144, 3, none⟩) (Kd.R_far (p := ⟨gb1144, 2, none⟩) (Kd.R_far (p := ⟨gb1144, 1, none⟩) (Kd.R_far (p := ⟨gb1144, 0, none⟩) (Kd.R_types HO1131.out BK1144.out (by decide)) (fun _ hk => hk.2) (.string t1135)) (fun _ hk => hk.2) (.int .i64 t1136)) (fun _ hk => hk.2) (.slice Ao124 t1137.length co124)) (fun _ hk => hk.2) (.int .i64 t1140)) (fun _ hk => hk.2) (.slice Ao125 t1141.length co125)) (fun _ h_ => h_.1))) (Kd.R_base ho0) hb); have n2_ := Aside0.mk (Kd.R_elder' (by (with_reducible repeat (first | apply Kd.R_alloc | apply Kd.R_drewN | apply Kd.R_drew)); exact (Kd.R_mono (Kd.R_far (p := ⟨gb1144, 4, none⟩) (Kd.R_far (p := ⟨gb1144, 3, none⟩) (Kd.R_far (p := ⟨gb1144, 2, none⟩) (Kd.R_far (p := ⟨gb1144, 1, none⟩) (Kd.R_far (p := ⟨gb1144, 0, none⟩) (Kd.R_types HO1134.out BK1144.out (by decide)) (fun _ hk => hk.2) (.string t1135)) (fun _ hk => hk.2) (.int .i64 t1136)) (fun _ hk => hk.2) (.slice Ao124 t1137.length co124)) (fun _ hk => hk.2) (.int .i64 t1140)) (fun _ hk => hk.2) (.slice Ao125 t1141.length co125)) (fun _ h_ => h_.1))) (Kd.R_base ho0) hb); have n3_ := Aside0.mk (Kd.R_elder' (by (with_reducible repeat (first | apply Kd.R_alloc | apply Kd.R_drewN | apply Kd.R_drew)); exact (Kd.R_mono (Kd.R_far (p := ⟨gb1144, 4, none⟩) (Kd.R_far (p := ⟨gb1144, 3, none⟩) (Kd.R_far (p := ⟨gb1144, 2, none⟩) (Kd.R_far (p := ⟨gb1144, 1, none⟩) (Kd.R_far (p := ⟨gb1144, 0, none⟩) (Kd.R_types HO1139.out BK1144.out (by decide)) (fun _ hk => hk.2) (.string t1135)) (fun _ hk => hk.2) (.int .i64 t1136)) (fun _ hk => hk.2) (.slice Ao124 t1137.length co124)) (fun _ hk => hk.2) (.int .i64 t1140)) (fun _ hk => hk.2) (.slice Ao125 t1141.length co125)) (fun _ h_ => h_.1))) (Kd.R_base ho0) hb); have n4_ := Aside0.mk (Kd.R_elder' (by (with_reducible repeat (first | apply Kd.R_alloc | apply Kd.R_drewN | apply Kd.R_drew)); exact (Kd.R_mono (Kd.R_far (p := ⟨gb1144, 4, none⟩) (Kd.R_far (p := ⟨gb1144, 3, none⟩) (Kd.R_far (p := ⟨gb1144, 2, none⟩) (Kd.R_far (p := ⟨gb1144, 1, none⟩) (Kd.R_far (p := ⟨gb1144, 0, none⟩) (Kd.R_types HO1143.out BK1144.out (by decide)) (fun _ hk => hk.2) (.string t1135)) (fun _ hk => hk.2) (.int .i64 t1136)) (fun _ hk => hk.2) (.slice Ao124 t1137.length co124)) (fun _ hk => hk.2) (.int .i64 t1140)) (fun _ hk => hk.2) (.slice Ao125 t1141.length co125)) (fun _ h_ => h_.1))) (Kd.R_base ho0) hb); have n5_ := Aside0.mk (Kd.R_lower (Kd.R_new' (Kd.R_new' (Kd.R_new' ho0 (Kd.R_lt (by (with_reducible repeat (first | apply Kd.R_alloc | apply Kd.R_drewN | apply Kd.R_drew)); exact (Kd.R_mono (Kd.R_far (p := ⟨gb1144, 4, none⟩) (Kd.R_far (p := ⟨gb1144, 3, none⟩) (Kd.R_far (p := ⟨gb1144, 2, none⟩) (Kd.R_far (p := ⟨gb1144, 1, none⟩) (Kd.R_far (p := ⟨gb1144, 0, none⟩) (Kd.R_types HO1127.out BK1144.out (by decide)) (fun _ hk => hk.2) (.string t1135)) (fun _ hk => hk.2) (.int .i64 t1136)) (fun _ hk => hk.2) (.slice Ao124 t1137.length co124)) (fun _ hk => hk.2) (.int .i64 t1140)) (fun _ hk => hk.2) (.slice Ao125 t1141.length co125)) (fun _ h_ => h_.1))))) (Kd.R_lt (by (with_reducible repeat (first | apply Kd.R_alloc | apply Kd.R_drewN | apply Kd.R_drew)); exact (Kd.R_mono (Kd.R_far (p := ⟨gb1144, 4, none⟩) (Kd.R_far (p := ⟨gb1144, 3, none⟩) (Kd.R_far (p := ⟨gb1144, 2, none⟩) (Kd.R_far (p := ⟨gb1144, 1, none⟩) (Kd.R_far (p := ⟨gb1144, 0, none⟩) (Kd.R_types HO1134.out BK1144.out (by decide)) (fun _ hk => hk.2) (.string t1135)) (fun _ hk => hk.2) (.int .i64 t1136)) (fun _ hk => hk.2) (.slice Ao124 t1137.length co124)) (fun _ hk => hk.2) (.int .i64 t1140)) (fun _ hk => hk.2) (.slice Ao125 t1141.length co125)) (fun _ h_ => h_.1))))) (Kd.R_lt (by (with_reducible repeat (first | apply Kd.R_alloc | apply Kd.R_drewN | apply Kd.R_drew)); exact (Kd.R_mono (Kd.R_far (p := ⟨gb1144, 4, none⟩) (Kd.R_far (p := ⟨gb1144, 3, none⟩) (Kd.R_far (p := ⟨gb1144, 2, none⟩) (Kd.R_far (p := ⟨gb1144, 1, none⟩) (Kd.R_far (p := ⟨gb1144, 0, none⟩) (Kd.R_types HO1139.out BK1144.out (by decide)) (fun _ hk => hk.2) (.string t1135)) (fun _ hk => hk.2) (.int .i64 t1136)) (fun _ hk => hk.2) (.slice Ao124 t1137.length co124)) (fun _ hk => hk.2) (.int .i64 t1140)) (fun _ hk => hk.2) (.slice Ao125 t1141.length co125)) (fun _ h_ => h_.1))))) (below_size (by repeat (first | (with_reducible first | exact HB.out | apply below_alloc | apply pw_below_drewN | apply below_drew1 | refine below_set ?_ GE1121.out | refine below_set ?_ GE1144.out) | exact HB.out)))); have n6_ := Aside0.mk (blk_below (g := gb1121) (o := .cells #[.string a0_0, .int .i64 a0_1, .slice A0_2 l0_2.length c0_2, .int .i64 a0_3, .slice A0_4 l0_4.length c0_4] 25 (0, 0)) (by (with_reducible repeat (first | refine blk_drewN ?_ _ | refine blk_drew ?_ | refine blk_alloc ?_ _)); refine blk_far ?_ NB1121_1144.out _; (with_reducible repeat (first | refine blk_drewN ?_ _ | refine blk_drew ?_ | refine blk_alloc ?_ _)); refine blk_far ?_ NB1121_1144.out _; (with_reducible repeat (first | refine blk_drewN ?_ _ | refine blk_drew ?_ | refine blk_alloc ?_ _)); refine blk_far ?_ NB1121_1144.out _; (with_reducible repeat (first | refine blk_drewN ?_ _ | refine blk_drew ?_ | refine blk_alloc ?_ _)); refine blk_far ?_ NB1121_1144.out _; (with_reducible repeat (first | refine blk_drewN ?_ _ | refine blk_drew ?_ | refine blk_alloc ?_ _)); refine blk_far ?_ NB1121_1144.out _; (with_reducible repeat (first | refine blk_drewN ?_ _ | refine blk_drew ?_ | refine blk_alloc ?_ _)); exact BK1121.out) hb); have n7_ := Aside0.mk (blk_below (g := gb1144) (o := .cells #[.string t1135, .int .i64 t1136, .slice Ao124 t1137.length co124, .int .i64 t1140, .slice Ao125 t1141.length co125] 30 (0, 0)) (by (with_reducible repeat (first | refine blk_drewN ?_ _ | refine blk_drew ?_ | refine blk_alloc ?_ _)); refine blk_put (cs := #[.string t1135, .int .i64 t1136, .slice Ao124 t1137.length co124, .int .i64 t1140, .slice none 0 0]) ?_ 4 _ rfl; (with_reducible repeat (first | refine blk_drewN ?_ _ | refine blk_drew ?_ | refine blk_alloc ?_ _)); refine blk_put (cs := #[.string t1135, .int .i64 t1136, .slice Ao124 t1137.length co124, .int .i64 0, .slice none 0 0]) ?_ 3 _ rfl; (with_reducible repeat (first | refine blk_drewN ?_ _ | refine blk_drew ?_ | refine blk_alloc ?_ _)); refine blk_put (cs := #[.string t1135, .int .i64 t1136, .slice none 0 0, .int .i64 0, .slice none 0 0]) ?_ 2 _ rfl; (with_reducible repeat (first | refine blk_drewN ?_ _ | refine blk_drew ?_ | refine blk_alloc ?_ _)); refine blk_put (cs := #[.string t1135, .int .i64 0, .slice none 0 0, .int .i64 0, .slice none 0 0]) ?_ 1 _ rfl; (with_reducible repeat (first | refine blk_drewN ?_ _ | refine blk_drew ?_ | refine blk_alloc ?_ _)); refine blk_put (cs := #[.string (⟨#[]⟩ : ByteArray), .int .i64 0, .slice none 0 0, .int .i64 0, .slice none 0 0]) ?_ 0 _ rfl; (with_reducible repeat (first | refine blk_drewN ?_ _ | refine blk_drew ?_ | refine blk_alloc ?_ _)); exact BK1144.out) hb); have n8_ := Aside0.mk (below_step (by repeat (first | (with_reducible first | exact HB.out | apply below_alloc | apply pw_below_drewN | apply below_drew1 | refine below_set ?_ GE1121.out | refine below_set ?_ GE1144.out) | exact HB.out)) hb); clear HO1127; clear HO1131; clear HO1134; clear HO1139; clear HO1143; clear BK1121; clear BK1144; clear HB; have HO1127 := n0_; have HO1131 := n1_; have HO1134 := n2_; have HO1139 := n3_; have HO1143 := n4_; have HO1147 := n5_; have BK1121 := n6_; have BK1144 := n7_; have HB := n8_; clear n0_ n1_ n2_ n3_ n4_ n5_ n6_ n7_ n8_; (try clear hb); (try clear hb2); (try clear hk); (try clear hi); (try clear ho0); obtain ⟨Ao127, co127, eo127⟩ := Kd.R_slice HO1147.out; subst eo127; obtain ⟨Ao128, co128, eo128⟩ := Kd.R_slice HO1134.out; subst eo128) | ((with_reducible refine gate_callee (f := 19) rfl ?_); refine goesL_ (some 29) rfl rfl Try.func19 (by kernel_rfl) rfl #[.slice Ao127 t1145.length co127, .slice Ao128 t1132.length co128] rfl (by (try simp only [List.map_toArray, List.map_cons, List.map_nil]); first | done | rfl | (simp only [List.length_drop, List.length_take]; rfl)) ?_; (with_reducible refine (laws_eqInt64S.calls k _ _ t1145 _ _ t1132 false _ ?side1 ?side2 ?side3 ?side4 A12.out).mono ?_); (case side1 => repeat (first | exact (Kd.R_reads' HO1147.out).2.2 | (with_reducible refine Kd.C_alloc ?_ _) | (with_reducible refine Kd.C_drewN ?_ _) | (with_reducible refine Kd.C_drew ?_))); (case side2 => exact (Kd.R_reads' HO1147.out).2.1); (case side3 => repeat (first | exact (Kd.R_reads' HO1134.out).2.2 | (with_reducible refine Kd.C_alloc ?_ _) | (with_reducible refine Kd.C_drewN ?_ _) | (with_reducible refine Kd.C_drew ?_))); (case side4 => exact (Kd.R_reads' HO1134.out).2.1); rintro e w' ⟨rfl, ⟨nd, rfl⟩⟩; refine ⟨_, rfl, ?_⟩))
      go_ret
      exact ⟨by first | rfl | (simp [errW_none, errW_some] <;> rfl) | (simp [*, errW_none, errW_some] <;> rfl), by repeat (first | (with_reducible first | exact HB.out | apply below_alloc | apply pw_below_drewN | apply below_drew1 | refine below_set ?_ GE1121.out | refine below_set ?_ GE1144.out) | exact HB.out)⟩

end Go.Proofs.Ytoedcnhgobbnfaa.All

/- What reads as data of a type can be read as a value of its kind. -/
namespace Go.Proofs.Ytoedcnhgobbnfaa.All
open Go.RowKit Go.Proofs.YtoedcnhgobbnfaaW.PrintWords Go.Proofs.YtoedcnhgobbnfaaW.PrintLast Go.Proofs.YtoedcnhgobbnfaaW.PrintMore
set_option linter.unusedVariables false
set_option linter.unusedSimpArgs false
structure Rdb {α : Type} (d : Kd α) (P : Program) (t : TypeId) (ok : α → Prop) : Prop where
  sz : P.cellsOf t = d.sz
  rd : ∀ {H : Type} {enc : TypeId × Value → H} {w : World} {base : Nat} {sp : Nat → Bool} {held : Bool} {fuel : Nat} {cs : List Value} {x : DataW H × List MemPlace}, DataW.trod enc P w base sp held fuel t cs = some x → ∃ a, d.K w a cs ∧ ok a
theorem Rdb.int {P : Program} {t : TypeId} {k : IntKind} (ht : P.underlying t = some (.int k)) (hs : P.cellsOf t = 1) : Rdb (Kd.int k) P t (fun a => (Lit.int k a).wf = true) :=
  ⟨hs, fun h => by obtain ⟨n, rfl, _, hw⟩ := DataW.trod_int ht h; exact ⟨n, rfl, hw⟩⟩
theorem Rdb.bool {P : Program} {t : TypeId} (ht : P.underlying t = some .bool) (hs : P.cellsOf t = 1) : Rdb Kd.bool P t (fun _ => True) :=
  ⟨hs, fun h => by obtain ⟨b, rfl, _⟩ := DataW.trod_bool ht h; exact ⟨b, rfl, trivial⟩⟩
theorem Rdb.string {P : Program} {t : TypeId} (ht : P.underlying t = some .string) (hs : P.cellsOf t = 1) : Rdb Kd.string P t (fun s => s.size ≤ 9223372036854775807) :=
  ⟨hs, fun h => by obtain ⟨s, rfl, _, hm⟩ := DataW.trod_string ht h; exact ⟨s, rfl, hm⟩⟩
theorem rdb_list {α : Type} {P : Nat → α → Prop} : ∀ n : Nat, (∀ j, j < n → ∃ x, P j x) → ∃ l : List α, l.length = n ∧ ∀ (j : Nat) (x : α), l[j]? = some x → P j x
  | 0, _ => ⟨[], rfl, fun j x h => by simp at h⟩
  | n + 1, h => by
    obtain ⟨l, hl, hp⟩ := rdb_list n (fun j hj => h j (by omega))
    obtain ⟨x, hx⟩ := h n (by omega)
    refine ⟨l ++ [x], by simp [hl], fun j y hy => ?_⟩
    by_cases hj : j < n
    · rw [List.getElem?_append_left (by omega)] at hy
      exact hp j y hy
    · have hlt := (List.getElem?_eq_some_iff.1 hy).1
      simp [hl] at hlt
      have : j = n := by omega
      subst this
      rw [List.getElem?_append_right (by omega)] at hy
      simp [hl] at hy
      subst hy
      exact hx
theorem Rdb.slice {α : Type} {d : Kd α} {P : Program} {t e : TypeId} {ok : α → Prop} (ht : P.underlying t = some (.slice e)) (hs : P.cellsOf t = 1) (h : Rdb d P e ok) : Rdb (Kd.slice e d) P t (fun xs => xs.length ≤ 9223372036854775807 ∧ ∀ x ∈ xs, ok x) := by
  refine ⟨hs, fun {H enc w base sp held fuel cs x} hx => ?_⟩
  rcases Deep.open_slice ht hx with ⟨rfl, _⟩ | ⟨a, len, cap, m, n, D, Pl, rfl, hb, hl, hm, hmm, _, hel⟩
  · exact ⟨[], ⟨none, 0, rfl, Nat.le_refl _, rfl, by simp, fun h0 => by simp at h0⟩, by simp, fun x hx => by simp at hx⟩
  · have hmax : len ≤ 9223372036854775807 := Nat.le_trans hl hm
    have hlm : len ≤ m := by rw [hmm]; split <;> omega
    obtain ⟨xs, hlen, hxs⟩ := rdb_list (P := fun j (x : α) => ok x ∧ ∃ c, c.length = d.sz ∧ d.K w x c ∧ ∀ (i : Nat) (u : Value), c[i]? = some u → w.cell? (a.add (j * d.sz + i)) = some u) len (fun j hj => by
      obtain ⟨cs', hc, htr⟩ := hel j (by omega)
      obtain ⟨x, hK, hok⟩ := h.rd htr
      obtain ⟨_, hcl, hcc⟩ := World.cells?_some hc
      rw [h.sz] at hcl hcc
      refine ⟨x, hok, cs', hcl, hK, fun i u hu => ?_⟩
      have hi := (List.getElem?_eq_some_iff.1 hu).1
      have := hcc i (by omega)
      rw [Addr.add_add] at this
      exact this.trans hu)
    refine ⟨xs, ⟨some a, cap, by rw [hlen], by omega, rfl, by omega, fun _ => ⟨a, rfl, fun j p hj => (hxs j p hj).2⟩⟩, by omega, fun x hx => ?_⟩
    obtain ⟨j, hj⟩ := List.getElem?_of_mem hx
    exact (hxs j x hj).1
/-- The fields of a struct (types and places) from cell 'off' on. -/
structure RdbFs {α : Type} (d : Kd α) (P : Program) (fs : List (TypeId × Nat)) (off : Nat) (ok : α → Prop) : Prop where
  rd : ∀ {H : Type} {enc : TypeId × Value → H} {w : World} {base : Nat} {sp : Nat → Bool} {held : Bool} {n : Nat} {cs : List Value}, cs.length = off + d.sz →
    (∀ f ∈ fs, ∃ x, DataW.trod enc P w base sp held n f.1 ((cs.drop f.2).take (P.cellsOf f.1)) = some x) → ∃ a, d.K w a (cs.drop off) ∧ ok a
theorem RdbFs.one {α : Type} {d : Kd α} {P : Program} {t : TypeId} {off : Nat} {ok : α → Prop} (h : Rdb d P t ok) : RdbFs d P [(t, off)] off ok := by
  refine ⟨fun {H enc w base sp held n cs} hl hf => ?_⟩
  obtain ⟨x, hx⟩ := hf (t, off) (by simp)
  simp only at hx
  rw [h.sz, List.take_of_length_le (by rw [List.length_drop]; omega)] at hx
  exact h.rd hx
theorem RdbFs.cons {α β : Type} {a : Kd α} {b : Kd β} {P : Program} {t : TypeId} {fs : List (TypeId × Nat)} {off off' : Nat} {ok : α → Prop} {ok' : β → Prop} (ho : off + a.sz = off') (h : Rdb a P t ok) (hs : RdbFs b P fs off' ok') : RdbFs (Kd.pair a b) P ((t, off) :: fs) off (fun x => ok x.1 ∧ ok' x.2) := by
  subst ho
  refine ⟨fun {H enc w base sp held n cs} hl hf => ?_⟩
  have hl' : cs.length = off + a.sz + b.sz := by rw [hl]; show off + (a.sz + b.sz) = _; omega
  obtain ⟨x, hx⟩ := hf (t, off) (by simp)
  simp only at hx
  rw [h.sz] at hx
  obtain ⟨y, hy, oky⟩ := h.rd hx
  obtain ⟨z, hz, okz⟩ := hs.rd hl' (fun g hg => hf g (by simp [hg]))
  refine ⟨(y, z), ⟨(cs.drop off).take a.sz, cs.drop (off + a.sz), ?_, hy, hz⟩, oky, okz⟩
  rw [← List.drop_drop, List.take_append_drop]
theorem Rdb.struct {α : Type} {d : Kd α} {P : Program} {t : TypeId} {fs : Array Field} {ok : α → Prop} (ht : P.underlying t = some (.struct fs)) (hs : P.cellsOf t = d.sz) (tos : List (TypeId × Nat)) (htos : fs.toList.map (fun f => (f.type, f.offset)) = tos) (h : RdbFs d P tos 0 ok) : Rdb d P t ok := by
  subst htos
  refine ⟨hs, fun hx => ?_⟩
  obtain ⟨xs, n, rfl, rfl, hl, hxl, hf⟩ := DataW.trod_struct ht hx
  have := h.rd (n := n) (by rw [hl, hs, Nat.zero_add]) (fun f hfm => by
    obtain ⟨f', hf', rfl⟩ := List.mem_map.1 hfm
    obtain ⟨i, hi⟩ := List.getElem?_of_mem hf'
    rw [Array.getElem?_toList] at hi
    have h1 := hf i f' hi
    have hlt : i < xs.length := by rw [hxl]; exact (Array.getElem?_eq_some_iff.1 hi).1
    exact ⟨xs[i], by rw [h1, List.getElem?_eq_getElem hlt]⟩)
  simpa using this
theorem Rdb.iso {α β : Type} {d : Kd α} {P : Program} {t : TypeId} {ok : α → Prop} {f : β → α} (h : Rdb d P t ok) (g : α → β) (hg : ∀ y, f (g y) = y) : Rdb (Kd.iso d f) P t (fun x => ok (f x)) :=
  ⟨h.sz, fun hx => by
    obtain ⟨a, hK, hok⟩ := h.rd hx
    refine ⟨g a, ?_, by rw [hg]; exact hok⟩
    show d.K _ (f (g a)) _
    rw [hg]
    exact hK⟩
theorem Rdb.imp {α : Type} {d : Kd α} {P : Program} {t : TypeId} {ok ok' : α → Prop} (h : Rdb d P t ok) (hi : ∀ a, ok a → ok' a) : Rdb d P t ok' :=
  ⟨h.sz, fun hx => by obtain ⟨a, hK, hok⟩ := h.rd hx; exact ⟨a, hK, hi a hok⟩⟩
end Go.Proofs.Ytoedcnhgobbnfaa.All

/- How the laws' arguments read. Printed by gen_row.py. -/
namespace Go.Proofs.Ytoedcnhgobbnfaa.All
open Go.RowKit Go.Proofs.YtoedcnhgobbnfaaW.PrintWords
set_option linter.unusedVariables false
def ok158 (x : S158) : Prop := (Lit.int .i64 x.f0).wf = true ∧ (Lit.int .i64 x.f1).wf = true ∧ (Lit.int .i64 x.f2).wf = true ∧ (Lit.int .u64 x.f3).wf = true
set_option maxRecDepth 100000 in
theorem rdb158 : Rdb k158 Try.prog 158 ok158 := Rdb.iso (f := fun x : S158 => (x.f0, x.f1, x.f2, x.f3)) (Rdb.struct Try.underlying158 (by kernel_rfl) [(2, 0), (2, 1), (2, 2), (73, 3)] rfl (RdbFs.cons rfl (Rdb.int Try.underlying2 (by kernel_rfl)) (RdbFs.cons rfl (Rdb.int Try.underlying2 (by kernel_rfl)) (RdbFs.cons rfl (Rdb.int Try.underlying2 (by kernel_rfl)) (RdbFs.one (Rdb.int Try.underlying73 (by kernel_rfl))))))) (fun y => (⟨y.1, y.2.1, y.2.2.1, y.2.2.2⟩ : S158)) (fun _ => rfl)
def ok140 (x : S140) : Prop := (Lit.int .i64 x.f0).wf = true ∧ (Lit.int .i64 x.f1).wf = true ∧ (Lit.int .i64 x.f2).wf = true ∧ (Lit.int .i64 x.f3).wf = true ∧ (Lit.int .i64 x.f4).wf = true ∧ (Lit.int .i64 x.f5).wf = true ∧ (x.f6.length ≤ 9223372036854775807 ∧ ∀ y ∈ x.f6, ok158 y) ∧ (x.f7.length ≤ 9223372036854775807 ∧ ∀ y ∈ x.f7, (Lit.int .i64 y).wf = true) ∧ (x.f8.length ≤ 9223372036854775807 ∧ ∀ y ∈ x.f8, (Lit.int .u64 y).wf = true)
set_option maxRecDepth 100000 in
theorem rdb140 : Rdb k140 Try.prog 140 ok140 := Rdb.iso (f := fun x : S140 => (x.f0, x.f1, x.f2, x.f3, x.f4, x.f5, x.f6, x.f7, x.f8)) (Rdb.struct Try.underlying140 (by kernel_rfl) [(2, 0), (2, 1), (2, 2), (2, 3), (2, 4), (2, 5), (138, 6), (22, 7), (64, 8)] rfl (RdbFs.cons rfl (Rdb.int Try.underlying2 (by kernel_rfl)) (RdbFs.cons rfl (Rdb.int Try.underlying2 (by kernel_rfl)) (RdbFs.cons rfl (Rdb.int Try.underlying2 (by kernel_rfl)) (RdbFs.cons rfl (Rdb.int Try.underlying2 (by kernel_rfl)) (RdbFs.cons rfl (Rdb.int Try.underlying2 (by kernel_rfl)) (RdbFs.cons rfl (Rdb.int Try.underlying2 (by kernel_rfl)) (RdbFs.cons rfl (Rdb.slice Try.underlying138 (by kernel_rfl) rdb158) (RdbFs.cons rfl (Rdb.slice Try.underlying22 (by kernel_rfl) (Rdb.int Try.underlying2 (by kernel_rfl))) (RdbFs.one (Rdb.slice Try.underlying64 (by kernel_rfl) (Rdb.int Try.underlying73 (by kernel_rfl))))))))))))) (fun y => (⟨y.1, y.2.1, y.2.2.1, y.2.2.2.1, y.2.2.2.2.1, y.2.2.2.2.2.1, y.2.2.2.2.2.2.1, y.2.2.2.2.2.2.2.1, y.2.2.2.2.2.2.2.2⟩ : S140)) (fun _ => rfl)
def ok96 (x : S96) : Prop := (x.f0.length ≤ 9223372036854775807 ∧ ∀ y ∈ x.f0, ok140 y)
set_option maxRecDepth 100000 in
theorem rdb96 : Rdb k96 Try.prog 96 ok96 := Rdb.iso (f := fun x : S96 => x.f0) (Rdb.struct Try.underlying96 (by kernel_rfl) [(94, 0)] rfl (RdbFs.one (Rdb.slice Try.underlying94 (by kernel_rfl) rdb140))) (fun y => (⟨y⟩ : S96)) (fun _ => rfl)
set_option maxRecDepth 100000 in
theorem rdbTop25 : Rdb (Kd.pair Kd.string (Kd.pair (Kd.int .i64) (Kd.pair (Kd.slice 2 (Kd.int .i64)) (Kd.pair (Kd.int .i64) (Kd.slice 96 k96))))) Try.prog 25 (fun x => x.1.size ≤ 9223372036854775807 ∧ (Lit.int .i64 x.2.1).wf = true ∧ (x.2.2.1.length ≤ 9223372036854775807 ∧ ∀ y ∈ x.2.2.1, (Lit.int .i64 y).wf = true) ∧ (Lit.int .i64 x.2.2.2.1).wf = true ∧ (x.2.2.2.2.length ≤ 9223372036854775807 ∧ ∀ y ∈ x.2.2.2.2, ok96 y)) := Rdb.struct Try.underlying25 (by kernel_rfl) [(9, 0), (2, 1), (22, 2), (2, 3), (23, 4)] rfl (RdbFs.cons rfl (Rdb.string Try.underlying9 (by kernel_rfl)) (RdbFs.cons rfl (Rdb.int Try.underlying2 (by kernel_rfl)) (RdbFs.cons rfl (Rdb.slice Try.underlying22 (by kernel_rfl) (Rdb.int Try.underlying2 (by kernel_rfl))) (RdbFs.cons rfl (Rdb.int Try.underlying2 (by kernel_rfl)) (RdbFs.one (Rdb.slice Try.underlying23 (by kernel_rfl) rdb96))))))
end Go.Proofs.Ytoedcnhgobbnfaa.All

/- Plain laws of the printed functions: eventually (Ev), step by step; loops over a list. -/
namespace Go.Proofs.Ytoedcnhgobbnfaa.All
open Go.RowKit Go.Proofs.YtoedcnhgobbnfaaW.PrintWords Go.Proofs.YtoedcnhgobbnfaaW.PrintLast Go.Proofs.YtoedcnhgobbnfaaW.PrintMore
set_option linter.unusedVariables false
set_option linter.unusedSimpArgs false
theorem Ev.succ {α : Type} {g : Nat → Option α} {r : α} (h : Ev (fun k => g (k + 1)) r) : Ev g r := by
  obtain ⟨K, hK⟩ := h
  refine ⟨K + 1, fun k hk => ?_⟩
  obtain ⟨m, rfl⟩ : ∃ m, k = m + 1 := ⟨k - 1, by omega⟩
  exact hK m (by omega)
theorem Ev.pos {α : Type} {c : Prop} [Decidable c] {g h : Nat → Option α} {r : α} (hc : c) (k : Ev g r) : Ev (fun n => if c then g n else h n) r := Ev.congr (fun n => if_pos hc) k
theorem Ev.neg {α : Type} {c : Prop} [Decidable c] {g h : Nat → Option α} {r : α} (hc : ¬ c) (k : Ev h r) : Ev (fun n => if c then g n else h n) r := Ev.congr (fun n => if_neg hc) k
theorem Ev.some_bind {α β : Type} {a : α} {f : Nat → α → Option β} {r : β} (k : Ev (fun n => f n a) r) : Ev (fun n => (some a).bind (f n)) r := k
theorem Ev.eq_bind {α β : Type} {o : Option α} {a : α} {f : Nat → α → Option β} {r : β} (h : o = some a) (k : Ev (fun n => f n a) r) : Ev (fun n => o.bind (f n)) r := by subst h; exact k
theorem Ev.some {α : Type} {a r : α} (h : a = r) : Ev (fun _ => some a) r := h ▸ Ev.now a
theorem Ev.of_eq {α : Type} {o : Option α} {r : α} (h : o = .some r) : Ev (fun _ => o) r := ⟨0, fun _ _ => h⟩
theorem wrap64_id {x : Int} (h1 : -9223372036854775808 ≤ x) (h2 : x ≤ 9223372036854775807) : wrap64 x = x := by unfold wrap64; omega
theorem wrap64_nat {i : Nat} (h : i < 9223372036854775807) : wrap64 ((i : Int) + 1) = ((i + 1 : Nat) : Int) := by rw [wrap64_id (by omega) (by omega)]; rfl
theorem getD_eq {α : Type} {xs : List α} {i : Nat} (h : i < xs.length) (z : α) : xs.getD i z = xs[i] := by rw [List.getD_eq_getElem?_getD, List.getElem?_eq_getElem h]; rfl
/-- A loop that fills a list of the same length. -/
theorem to_gen {α β : Type} (f : α → β) (z : β) (za : α) (xs : List α) (g : Nat → List β → Int → Option (List β))
    (hstep : ∀ (i : Nat) (out : List β) (r : List β), i < xs.length → out.length = xs.length → Ev (fun k => g k (out.set i (f (xs.getD i za))) ((i + 1 : Nat) : Int)) r → Ev (fun k => g k out (i : Int)) r)
    (hend : ∀ out : List β, out.length = xs.length → Ev (fun k => g k out (xs.length : Int)) out) : Ev (fun k => g k (List.replicate xs.length z) 0) (xs.map f) := by
  have key : ∀ d i : Nat, i + d = xs.length → Ev (fun k => g k ((xs.map f).take i ++ List.replicate (xs.length - i) z) (i : Int)) (xs.map f) := by
    intro d
    induction d with
    | zero =>
      intro i hi
      obtain rfl : i = xs.length := by omega
      rw [Nat.sub_self, List.replicate_zero, List.append_nil, List.take_of_length_le (by simp)]
      exact hend _ (by simp)
    | succ d ih =>
      intro i hi
      have h1 := ih (i + 1) (by omega)
      refine hstep i _ _ (by omega) (by simp; omega) ?_
      have e : ((xs.map f).take i ++ List.replicate (xs.length - i) z).set i (f (xs.getD i za)) = (xs.map f).take (i + 1) ++ List.replicate (xs.length - (i + 1)) z := by
        have hl : ((xs.map f).take i).length = i := by simp; omega
        rw [List.set_append_right _ _ (by omega), hl, Nat.sub_self]
        obtain ⟨m, hm⟩ : ∃ m, xs.length - i = m + 1 := ⟨xs.length - i - 1, by omega⟩
        rw [hm, List.replicate_succ, List.set_cons_zero, List.take_succ_eq_append_getElem (by simp; omega), show xs.length - (i + 1) = m by omega, List.append_assoc]
        congr 1
        simp [List.getElem?_eq_getElem (show i < xs.length by omega)]
      rw [e]
      exact h1
  have h0 := key xs.length 0 (by omega)
  simpa using h0
/-- A loop whose end is r, whatever happens on the way. -/
theorem for_gen {ρ : Type} (r : ρ) (n : Nat) (g : Nat → Int → Option ρ) (hstep : ∀ i : Nat, i < n → Ev (fun k => g k ((i + 1 : Nat) : Int)) r → Ev (fun k => g k (i : Int)) r) (hend : Ev (fun k => g k (n : Int)) r) : Ev (fun k => g k 0) r := by
  have key : ∀ d i : Nat, i + d = n → Ev (fun k => g k (i : Int)) r := by
    intro d
    induction d with
    | zero => intro i hi; obtain rfl : i = n := by omega
              exact hend
    | succ d ih => intro i hi; exact hstep i (by omega) (ih (i + 1) (by omega))
  exact key n 0 (by omega)
/-- A loop that says yes at each step. -/
theorem all_gen (n : Nat) (g : Nat → Int → Option Bool) (hstep : ∀ i : Nat, i < n → Ev (fun k => g k ((i + 1 : Nat) : Int)) true → Ev (fun k => g k (i : Int)) true) (hend : Ev (fun k => g k (n : Int)) true) : Ev (fun k => g k 0) true := for_gen true n g hstep hend
/-- A loop that writes each element anew, by its number. -/
theorem mk_gen {β ρ : Type} (f : Nat → β) (xs : List β) (fin : List β → ρ) (g : Nat → List β → Int → Option ρ)
    (hstep : ∀ (i : Nat) (out : List β) (r : ρ), i < xs.length → out.length = xs.length → Ev (fun k => g k (out.set i (f i)) ((i + 1 : Nat) : Int)) r → Ev (fun k => g k out (i : Int)) r)
    (hend : ∀ out : List β, out.length = xs.length → Ev (fun k => g k out (xs.length : Int)) (fin out)) : Ev (fun k => g k xs 0) (fin ((List.range xs.length).map f)) := by
  have key : ∀ d i : Nat, i + d = xs.length → Ev (fun k => g k ((List.range i).map f ++ xs.drop i) (i : Int)) (fin ((List.range xs.length).map f)) := by
    intro d
    induction d with
    | zero =>
      intro i hi
      obtain rfl : i = xs.length := by omega
      rw [List.drop_length, List.append_nil]
      exact hend _ (by simp)
    | succ d ih =>
      intro i hi
      have h1 := ih (i + 1) (by omega)
      refine hstep i _ _ (by omega) (by simp; omega) ?_
      have e : ((List.range i).map f ++ xs.drop i).set i (f i) = (List.range (i + 1)).map f ++ xs.drop (i + 1) := by
        have hl : ((List.range i).map f).length = i := by simp
        rw [List.set_append_right _ _ (by omega), hl, Nat.sub_self, List.drop_eq_getElem_cons (show i < xs.length by omega), List.set_cons_zero, List.range_succ, List.map_append, List.append_assoc]
        rfl
      rw [e]
      exact h1
  have h0 := key xs.length 0 (by omega)
  simpa using h0
/-- A loop that takes sizes off; below 0 it ends with -1. -/
theorem sz_gen {α : Type} (s : α → Nat) (za : α) (xs : List α) (g : Nat → Int → Int → Option Int)
    (hstep : ∀ (i : Nat) (a r : Int), i < xs.length → 0 ≤ a → a ≤ 1048576 → (if (s (xs.getD i za) : Int) ≤ a then Ev (fun k => g k (a - s (xs.getD i za)) ((i + 1 : Nat) : Int)) r else r = -1) → Ev (fun k => g k a (i : Int)) r)
    (hend : ∀ a : Int, Ev (fun k => g k a (xs.length : Int)) a) (a : Int) (h0 : 0 ≤ a) (h1 : a ≤ 1048576) : Ev (fun k => g k a 0) (if ((xs.map s).sum : Int) ≤ a then a - (xs.map s).sum else -1) := by
  have key : ∀ d i : Nat, i + d = xs.length → ∀ a : Int, 0 ≤ a → a ≤ 1048576 → Ev (fun k => g k a (i : Int)) (if ((((xs.drop i).map s).sum : Nat) : Int) ≤ a then a - (((xs.drop i).map s).sum : Nat) else -1) := by
    intro d
    induction d with
    | zero =>
      intro i hi a h0 h1
      obtain rfl : i = xs.length := by omega
      rw [List.drop_length]
      simp [h0]
      exact hend a
    | succ d ih =>
      intro i hi a h0 h1
      have hlt : i < xs.length := by omega
      refine hstep i a _ hlt h0 h1 ?_
      rw [List.drop_eq_getElem_cons hlt, List.map_cons, List.sum_cons, getD_eq hlt]
      split
      · rename_i hc
        have h2 := ih (i + 1) (by omega) (a - (s xs[i] : Nat)) (by omega) (by omega)
        have e : (if ((((xs.drop (i + 1)).map s).sum : Nat) : Int) ≤ a - (s xs[i] : Nat) then a - (s xs[i] : Nat) - (((xs.drop (i + 1)).map s).sum : Nat) else -1) = (if ((s xs[i] + ((xs.drop (i + 1)).map s).sum : Nat) : Int) ≤ a then a - (s xs[i] + ((xs.drop (i + 1)).map s).sum : Nat) else -1) := by
          split <;> split <;> omega
        rw [← e]
        exact h2
      · rename_i hc
        rw [if_neg (by omega)]
  have h2 := key xs.length 0 (by omega) a h0 h1
  simpa using h2
theorem sum_getD_le {α : Type} (s : α → Nat) (z : α) : ∀ (xs : List α) (i : Nat), i < xs.length → s (xs.getD i z) ≤ (xs.map s).sum
  | x :: xs, 0, _ => by simp
  | x :: xs, i + 1, h => by
    have := sum_getD_le s z xs i (by simpa using h)
    simp only [List.getD_cons_succ, List.map_cons, List.sum_cons] at this ⊢
    omega
end Go.Proofs.Ytoedcnhgobbnfaa.All

/- Plain laws of szFunc, toFunc, eqFunc over the laws' functions. -/
namespace Go.Proofs.Ytoedcnhgobbnfaa.All
open Go.RowKit Go.Proofs.YtoedcnhgobbnfaaW.PrintWords Go.Proofs.YtoedcnhgobbnfaaW.PrintLast Go.Proofs.YtoedcnhgobbnfaaW.PrintMore
set_option linter.unusedVariables false
set_option linter.unusedSimpArgs false
def iOperand (x : S158) : S75 := ⟨x.f0, x.f1, x.f2, x.f3⟩
def iInstr (x : S140) : S66 := ⟨x.f0, x.f1, x.f2, x.f3, x.f4, x.f5, x.f6.map iOperand, x.f7, x.f8⟩
def iBlock (x : S96) : S62 := ⟨x.f0.map iInstr⟩
def sInstr (x : S140) : Nat := x.f6.length + x.f7.length + x.f8.length
def sInstrS (xs : List S140) : Nat := xs.length + (xs.map sInstr).sum
def sBlock (x : S96) : Nat := sInstrS x.f0
def sBlockS (xs : List S96) : Nat := xs.length + (xs.map sBlock).sum
/-- What is known of lengths: each list's own is a machine number. -/
def lInstr (x : S140) : Prop := x.f6.length ≤ 9223372036854775807 ∧ x.f7.length ≤ 9223372036854775807 ∧ x.f8.length ≤ 9223372036854775807
def lInstrS (xs : List S140) : Prop := xs.length ≤ 9223372036854775807 ∧ ∀ x ∈ xs, lInstr x
def lBlockS (xs : List S96) : Prop := xs.length ≤ 9223372036854775807 ∧ ∀ x ∈ xs, lInstrS x.f0
theorem szInt64S_f (l : List Int) (a : Int) (h0 : 0 ≤ a) (h1 : a ≤ 1048576) (hl : l.length ≤ 9223372036854775807) : laws_szInt64S.f l a = some (if (l.length : Int) ≤ a then a - l.length else -1) := by
  unfold laws_szInt64S.f; rw [wrap64_id (by omega) (by omega)]
  by_cases h : (l.length : Int) ≤ a
  · rw [if_neg (by omega), if_pos h]
  · rw [if_pos (by omega), if_neg h]
theorem szUint64S_f (l : List Int) (a : Int) (h0 : 0 ≤ a) (h1 : a ≤ 1048576) (hl : l.length ≤ 9223372036854775807) : laws_szUint64S.f l a = some (if (l.length : Int) ≤ a then a - l.length else -1) := by
  unfold laws_szUint64S.f; rw [wrap64_id (by omega) (by omega)]
  by_cases h : (l.length : Int) ≤ a
  · rw [if_neg (by omega), if_pos h]
  · rw [if_pos (by omega), if_neg h]
theorem szOperandS_f (l : List S158) (a : Int) (h0 : 0 ≤ a) (h1 : a ≤ 1048576) (hl : l.length ≤ 9223372036854775807) : laws_szOperandS.f l a = some (if (l.length : Int) ≤ a then a - l.length else -1) := by
  unfold laws_szOperandS.f; rw [wrap64_id (by omega) (by omega)]
  by_cases h : (l.length : Int) ≤ a
  · rw [if_neg (by omega), if_pos h]
  · rw [if_pos (by omega), if_neg h]
theorem szInstr_f (x : S140) (a : Int) (h0 : 0 ≤ a) (h1 : a ≤ 1048576) (hx : lInstr x) : laws_szInstr.f x.f0 x.f1 x.f2 x.f3 x.f4 x.f5 x.f6 x.f7 x.f8 a = some (if (sInstr x : Int) ≤ a then a - sInstr x else -1) := by
  obtain ⟨l6, l7, l8⟩ := hx
  unfold laws_szInstr.f sInstr
  rw [szOperandS_f _ _ h0 h1 l6]; simp only [Option.bind_some]
  by_cases c6 : (x.f6.length : Int) ≤ a
  · rw [if_pos c6, if_neg (by omega), szInt64S_f _ _ (by omega) (by omega) l7]; simp only [Option.bind_some]
    by_cases c7 : (x.f7.length : Int) ≤ a - x.f6.length
    · rw [if_pos c7, if_neg (by omega), szUint64S_f _ _ (by omega) (by omega) l8]; simp only [Option.bind_some]
      by_cases c8 : (x.f8.length : Int) ≤ a - x.f6.length - x.f7.length
      · rw [if_pos c8, if_neg (by omega), if_pos (by omega)]; congr 1; omega
      · rw [if_neg c8, if_pos (by omega), if_neg (by omega)]
    · rw [if_neg c7, if_pos (by omega), if_neg (by omega)]
  · rw [if_neg c6, if_pos (by omega), if_neg (by omega)]
theorem szInstrS_f (xs : List S140) (a : Int) (h0 : 0 ≤ a) (h1 : a ≤ 1048576) (hx : lInstrS xs) : Ev (fun k => laws_szInstrS.f k xs a) (if (sInstrS xs : Int) ≤ a then a - sInstrS xs else -1) := by
  obtain ⟨hl, hx⟩ := hx
  unfold laws_szInstrS.f
  rw [wrap64_id (by omega) (by omega)]
  by_cases c : (xs.length : Int) ≤ a
  · refine Ev.neg (by omega) ?_
    have h := sz_gen sInstr z140 xs (fun k a i => laws_szInstrS.l0 k xs a i) (fun i a r hi h0 h1 h => by
      refine Ev.succ ?_
      simp only [laws_szInstrS.l0]
      refine Ev.pos (by omega) (Ev.pos (by omega) ?_)
      have hm : lInstr (rd_T140 xs i) := hx _ (by simp only [rd_T140, Int.toNat_natCast]; rw [getD_eq hi]; exact List.getElem_mem hi)
      refine Ev.eq_bind (szInstr_f _ a h0 h1 hm) ?_
      have e : rd_T140 xs i = xs.getD i z140 := by simp [rd_T140]
      rw [e]
      split at h
      · rename_i hc
        rw [if_pos hc, wrap64_nat (by omega)]
        exact Ev.neg (by omega) h
      · rename_i hc
        rw [if_neg hc]
        exact Ev.pos (by omega) (Ev.some h.symm)) (fun a => by
      refine Ev.succ ?_
      simp only [laws_szInstrS.l0]
      exact Ev.neg (by omega) (Ev.now _)) (a - xs.length) (by omega) (by omega)
    have e : (if ((xs.map sInstr).sum : Int) ≤ a - xs.length then a - xs.length - (xs.map sInstr).sum else -1) = (if (sInstrS xs : Int) ≤ a then a - sInstrS xs else -1) := by unfold sInstrS; split <;> split <;> omega
    rw [← e]
    exact h
  · rw [if_neg (by unfold sInstrS; omega)]
    exact Ev.pos (by omega) (Ev.now _)
theorem szBlockS_f (xs : List S96) (a : Int) (h0 : 0 ≤ a) (h1 : a ≤ 1048576) (hx : lBlockS xs) : Ev (fun k => laws_szBlockS.f k xs a) (if (sBlockS xs : Int) ≤ a then a - sBlockS xs else -1) := by
  obtain ⟨hl, hx⟩ := hx
  unfold laws_szBlockS.f
  rw [wrap64_id (by omega) (by omega)]
  by_cases c : (xs.length : Int) ≤ a
  · refine Ev.neg (by omega) ?_
    have h := sz_gen sBlock z96 xs (fun k a i => laws_szBlockS.l0 k xs a i) (fun i a r hi h0 h1 h => by
      refine Ev.succ ?_
      simp only [laws_szBlockS.l0]
      refine Ev.pos (by omega) (Ev.pos (by omega) ?_)
      have hm : lInstrS (rd_T96 xs i).f0 := hx _ (by simp only [rd_T96, Int.toNat_natCast]; rw [getD_eq hi]; exact List.getElem_mem hi)
      have e : rd_T96 xs i = xs.getD i z96 := by simp [rd_T96]
      rw [e] at hm ⊢
      have h2 := szInstrS_f _ a h0 h1 hm
      unfold laws_szBlock.f
      split at h
      · rename_i hc
        rw [if_pos (show (sInstrS (xs.getD i z96).f0 : Int) ≤ a from hc)] at h2
        refine Ev.bind (Ev.bind h2 (Ev.neg (by unfold sBlock at hc; omega) (Ev.now _))) ?_
        rw [wrap64_nat (by omega)]
        exact Ev.neg (by unfold sBlock at hc; omega) h
      · rename_i hc
        rw [if_neg (show ¬ (sInstrS (xs.getD i z96).f0 : Int) ≤ a from hc)] at h2
        refine Ev.bind (Ev.bind h2 (Ev.pos (by omega) (Ev.now _))) ?_
        exact Ev.pos (by omega) (Ev.some h.symm)) (fun a => by
      refine Ev.succ ?_
      simp only [laws_szBlockS.l0]
      exact Ev.neg (by omega) (Ev.now _)) (a - xs.length) (by omega) (by omega)
    have e : (if ((xs.map sBlock).sum : Int) ≤ a - xs.length then a - xs.length - (xs.map sBlock).sum else -1) = (if (sBlockS xs : Int) ≤ a then a - sBlockS xs else -1) := by unfold sBlockS; split <;> split <;> omega
    rw [← e]
    exact h
  · rw [if_neg (by unfold sBlockS; omega)]
    exact Ev.pos (by omega) (Ev.now _)
theorem szFunc_f (n : ByteArray) (b : Int) (ps : List Int) (c : Int) (bs : List S96) (hn : n.size ≤ 9223372036854775807) (hp : ps.length ≤ 9223372036854775807) (hb : lBlockS bs) :
    ∃ r, Ev (fun k => laws_szFunc.f k n b ps c bs 1048576) r ∧ (r < 0 ∨ n.size + ps.length + sBlockS bs ≤ 1048576) := by
  unfold laws_szFunc.f
  rw [wrap64_id (by omega) (by omega)]
  by_cases c1 : (n.size : Int) ≤ 1048576
  · by_cases c2 : (ps.length : Int) ≤ 1048576 - n.size
    · by_cases c3 : (sBlockS bs : Int) ≤ 1048576 - n.size - ps.length
      · refine ⟨1048576 - n.size - ps.length - sBlockS bs, Ev.neg (by omega) ?_, .inr (by omega)⟩
        refine Ev.eq_bind (szInt64S_f _ _ (by omega) (by omega) hp) ?_
        rw [if_pos c2]
        refine Ev.neg (by omega) ?_
        have h := szBlockS_f bs (1048576 - n.size - ps.length) (by omega) (by omega) hb
        rw [if_pos c3] at h
        exact Ev.bind h (Ev.neg (by omega) (Ev.now _))
      · refine ⟨-1, Ev.neg (by omega) ?_, .inl (by omega)⟩
        refine Ev.eq_bind (szInt64S_f _ _ (by omega) (by omega) hp) ?_
        rw [if_pos c2]
        refine Ev.neg (by omega) ?_
        have h := szBlockS_f bs (1048576 - n.size - ps.length) (by omega) (by omega) hb
        rw [if_neg c3] at h
        exact Ev.bind h (Ev.pos (by omega) (Ev.now _))
    · refine ⟨-1, Ev.neg (by omega) ?_, .inl (by omega)⟩
      refine Ev.eq_bind (szInt64S_f _ _ (by omega) (by omega) hp) ?_
      rw [if_neg c2]
      exact Ev.pos (by omega) (Ev.now _)
  · exact ⟨-1, Ev.pos (by omega) (Ev.now _), .inl (by omega)⟩

/-! ### to -/
theorem toInt64S_f (l : List Int) (hl : l.length ≤ 1048576) : Ev (fun k => laws_toInt64S.f k l) l := by
  unfold laws_toInt64S.f
  refine Ev.pos (by omega) (Ev.pos (by omega) ?_)
  have h := to_gen (fun x : Int => x) 0 0 l (fun k out i => laws_toInt64S.l0 k l out i) (fun i out r hi ho h => by
    refine Ev.succ ?_
    simp only [laws_toInt64S.l0]
    refine Ev.pos (by omega) (Ev.pos (by omega) (Ev.pos (by omega) ?_))
    rw [wrap64_nat (by omega)]
    simpa [rd] using h) (fun out _ => by
    refine Ev.succ ?_
    simp only [laws_toInt64S.l0]
    exact Ev.neg (by omega) (Ev.now _))
  simpa using h
theorem toUint64S_f (l : List Int) (hl : l.length ≤ 1048576) : Ev (fun k => laws_toUint64S.f k l) l := by
  unfold laws_toUint64S.f
  refine Ev.pos (by omega) (Ev.pos (by omega) ?_)
  have h := to_gen (fun x : Int => x) 0 0 l (fun k out i => laws_toUint64S.l0 k l out i) (fun i out r hi ho h => by
    refine Ev.succ ?_
    simp only [laws_toUint64S.l0]
    refine Ev.pos (by omega) (Ev.pos (by omega) (Ev.pos (by omega) ?_))
    rw [wrap64_nat (by omega)]
    simpa [rd] using h) (fun out _ => by
    refine Ev.succ ?_
    simp only [laws_toUint64S.l0]
    exact Ev.neg (by omega) (Ev.now _))
  simpa using h
theorem toOperandS_f (l : List S158) (hl : l.length ≤ 1048576) : Ev (fun k => laws_toOperandS.f k l) (l.map iOperand) := by
  unfold laws_toOperandS.f
  refine Ev.pos (by omega) (Ev.pos (by omega) ?_)
  have h := to_gen iOperand z75 z158 l (fun k out i => laws_toOperandS.l0 k l out i) (fun i out r hi ho h => by
    refine Ev.succ ?_
    simp only [laws_toOperandS.l0]
    refine Ev.pos (by omega) (Ev.pos (by omega) (Ev.eq_bind (by unfold laws_toOperand.f; rfl) (Ev.pos (by omega) ?_)))
    rw [wrap64_nat (by omega)]
    simpa [rd_T158, iOperand] using h) (fun out _ => by
    refine Ev.succ ?_
    simp only [laws_toOperandS.l0]
    exact Ev.neg (by omega) (Ev.now _))
  simpa using h
theorem toInstrS_f (l : List S140) (hl : sInstrS l ≤ 1048576) : Ev (fun k => laws_toInstrS.f k l) (l.map iInstr) := by
  unfold laws_toInstrS.f
  have hl1 : l.length ≤ 1048576 := by unfold sInstrS at hl; omega
  refine Ev.pos (by omega) (Ev.pos (by omega) ?_)
  have h := to_gen iInstr z66 z140 l (fun k out i => laws_toInstrS.l0 k l out i) (fun i out r hi ho h => by
    refine Ev.succ ?_
    simp only [laws_toInstrS.l0]
    have hs := sum_getD_le sInstr z140 l i hi
    have e : rd_T140 l i = l.getD i z140 := by simp [rd_T140]
    rw [e]
    have hz : sInstr (l.getD i z140) = (l.getD i z140).f6.length + (l.getD i z140).f7.length + (l.getD i z140).f8.length := rfl
    unfold sInstrS at hl
    refine Ev.pos (by omega) (Ev.pos (by omega) (Ev.bind (a := ((l.getD i z140).f0, (l.getD i z140).f1, (l.getD i z140).f2, (l.getD i z140).f3, (l.getD i z140).f4, (l.getD i z140).f5, (l.getD i z140).f6.map iOperand, (l.getD i z140).f7, (l.getD i z140).f8)) ?_ (Ev.pos (by omega) ?_)))
    · unfold laws_toInstr.f
      exact Ev.bind (toOperandS_f _ (by omega)) (Ev.bind (toInt64S_f _ (by omega)) (Ev.bind (toUint64S_f _ (by omega)) (Ev.now _)))
    · rw [wrap64_nat (by omega)]
      exact h) (fun out _ => by
    refine Ev.succ ?_
    simp only [laws_toInstrS.l0]
    exact Ev.neg (by omega) (Ev.now _))
  simpa using h
theorem toBlockS_f (l : List S96) (hl : sBlockS l ≤ 1048576) : Ev (fun k => laws_toBlockS.f k l) (l.map iBlock) := by
  unfold laws_toBlockS.f
  have hl1 : l.length ≤ 1048576 := by unfold sBlockS at hl; omega
  refine Ev.pos (by omega) (Ev.pos (by omega) ?_)
  have h := to_gen iBlock z62 z96 l (fun k out i => laws_toBlockS.l0 k l out i) (fun i out r hi ho h => by
    refine Ev.succ ?_
    simp only [laws_toBlockS.l0]
    have hs := sum_getD_le sBlock z96 l i hi
    have e : rd_T96 l i = l.getD i z96 := by simp [rd_T96]
    rw [e]
    have hz : sBlock (l.getD i z96) = sInstrS (l.getD i z96).f0 := rfl
    unfold sBlockS at hl
    refine Ev.pos (by omega) (Ev.pos (by omega) (Ev.bind (a := (l.getD i z96).f0.map iInstr) ?_ (Ev.pos (by omega) ?_)))
    · unfold laws_toBlock.f
      exact Ev.bind (toInstrS_f _ (by omega)) (Ev.now _)
    · rw [wrap64_nat (by omega)]
      exact h) (fun out _ => by
    refine Ev.succ ?_
    simp only [laws_toBlockS.l0]
    exact Ev.neg (by omega) (Ev.now _))
  simpa using h
theorem toFunc_f (n : ByteArray) (b : Int) (ps : List Int) (c : Int) (bs : List S96) (h : n.size + ps.length + sBlockS bs ≤ 1048576) : Ev (fun k => laws_toFunc.f k n b ps c bs) (n, b, ps, c, bs.map iBlock) := by
  unfold laws_toFunc.f
  exact Ev.bind (toInt64S_f _ (by omega)) (Ev.bind (toBlockS_f _ (by omega)) (Ev.now _))

/-! ### eq, of one value with itself -/
theorem eqInt64S_f (l : List Int) (hl : l.length ≤ 9223372036854775806) : Ev (fun k => laws_eqInt64S.f k l l) true := by
  unfold laws_eqInt64S.f
  refine Ev.pos rfl (all_gen l.length (fun k i => laws_eqInt64S.l0 k l l i) (fun i hi h => ?_) ?_)
  · refine Ev.succ ?_
    simp only [laws_eqInt64S.l0]
    rw [wrap64_nat (by omega)]
    exact Ev.pos (by omega) (Ev.pos (by omega) (Ev.pos (by omega) (Ev.pos trivial h)))
  · refine Ev.succ ?_
    simp only [laws_eqInt64S.l0]
    exact Ev.neg (by omega) (Ev.now _)
theorem eqUint64S_f (l : List Int) (hl : l.length ≤ 9223372036854775806) : Ev (fun k => laws_eqUint64S.f k l l) true := by
  unfold laws_eqUint64S.f
  refine Ev.pos rfl (all_gen l.length (fun k i => laws_eqUint64S.l0 k l l i) (fun i hi h => ?_) ?_)
  · refine Ev.succ ?_
    simp only [laws_eqUint64S.l0]
    rw [wrap64_nat (by omega)]
    exact Ev.pos (by omega) (Ev.pos (by omega) (Ev.pos (by omega) (Ev.pos trivial h)))
  · refine Ev.succ ?_
    simp only [laws_eqUint64S.l0]
    exact Ev.neg (by omega) (Ev.now _)
theorem eqOperandS_f (l : List S75) (hl : l.length ≤ 9223372036854775806) : Ev (fun k => laws_eqOperandS.f k l l) true := by
  unfold laws_eqOperandS.f
  refine Ev.pos rfl (all_gen l.length (fun k i => laws_eqOperandS.l0 k l l i) (fun i hi h => ?_) ?_)
  · refine Ev.succ ?_
    simp only [laws_eqOperandS.l0]
    rw [wrap64_nat (by omega)]
    exact Ev.pos (by omega) (Ev.pos (by omega) (Ev.pos (by omega) (Ev.eq_bind (a := true) (by simp [laws_eqOperand.f]) (Ev.pos rfl h))))
  · refine Ev.succ ?_
    simp only [laws_eqOperandS.l0]
    exact Ev.neg (by omega) (Ev.now _)
def bInstr (x : S66) : Prop := x.f6.length ≤ 1048576 ∧ x.f7.length ≤ 1048576 ∧ x.f8.length ≤ 1048576
def bBlock (x : S62) : Prop := x.f0.length ≤ 1048576 ∧ ∀ y ∈ x.f0, bInstr y
theorem eqInstr_f (x : S66) (h : bInstr x) : Ev (fun k => laws_eqInstr.f k x.f0 x.f1 x.f2 x.f3 x.f4 x.f5 x.f6 x.f7 x.f8 x.f0 x.f1 x.f2 x.f3 x.f4 x.f5 x.f6 x.f7 x.f8) true := by
  obtain ⟨h6, h7, h8⟩ := h
  unfold laws_eqInstr.f
  exact Ev.pos rfl (Ev.pos rfl (Ev.pos rfl (Ev.pos rfl (Ev.pos rfl (Ev.pos rfl (Ev.bind (eqOperandS_f _ (by omega)) (Ev.pos rfl (Ev.bind (eqInt64S_f _ (by omega)) (Ev.pos rfl (Ev.bind (eqUint64S_f _ (by omega)) (Ev.pos rfl (Ev.now _))))))))))))
theorem eqInstrS_f (l : List S66) (hl : l.length ≤ 1048576) (hb : ∀ y ∈ l, bInstr y) : Ev (fun k => laws_eqInstrS.f k l l) true := by
  unfold laws_eqInstrS.f
  refine Ev.pos rfl (all_gen l.length (fun k i => laws_eqInstrS.l0 k l l i) (fun i hi h => ?_) ?_)
  · refine Ev.succ ?_
    simp only [laws_eqInstrS.l0]
    rw [wrap64_nat (by omega)]
    have hm : bInstr (rd_T66 l i) := hb _ (by simp only [rd_T66, Int.toNat_natCast]; rw [getD_eq hi]; exact List.getElem_mem hi)
    exact Ev.pos (by omega) (Ev.pos (by omega) (Ev.pos (by omega) (Ev.bind (eqInstr_f _ hm) (Ev.pos rfl h))))
  · refine Ev.succ ?_
    simp only [laws_eqInstrS.l0]
    exact Ev.neg (by omega) (Ev.now _)
theorem eqBlockS_f (l : List S62) (hl : l.length ≤ 1048576) (hb : ∀ y ∈ l, bBlock y) : Ev (fun k => laws_eqBlockS.f k l l) true := by
  unfold laws_eqBlockS.f
  refine Ev.pos rfl (all_gen l.length (fun k i => laws_eqBlockS.l0 k l l i) (fun i hi h => ?_) ?_)
  · refine Ev.succ ?_
    simp only [laws_eqBlockS.l0]
    rw [wrap64_nat (by omega)]
    have hm : bBlock (rd_T62 l i) := hb _ (by simp only [rd_T62, Int.toNat_natCast]; rw [getD_eq hi]; exact List.getElem_mem hi)
    refine Ev.pos (by omega) (Ev.pos (by omega) (Ev.pos (by omega) (Ev.bind (a := true) ?_ (Ev.pos rfl h))))
    unfold laws_eqBlock.f
    exact Ev.bind (eqInstrS_f _ hm.1 hm.2) (Ev.pos rfl (Ev.now _))
  · refine Ev.succ ?_
    simp only [laws_eqBlockS.l0]
    exact Ev.neg (by omega) (Ev.now _)
theorem eqFunc_f (n : ByteArray) (b : Int) (ps : List Int) (c : Int) (bs : List S62) (hp : ps.length ≤ 1048576) (hl : bs.length ≤ 1048576) (hb : ∀ y ∈ bs, bBlock y) : Ev (fun k => laws_eqFunc.f k n b ps c bs n b ps c bs) true := by
  unfold laws_eqFunc.f
  exact Ev.pos rfl (Ev.pos rfl (Ev.bind (eqInt64S_f _ (by omega)) (Ev.pos rfl (Ev.pos rfl (Ev.bind (eqBlockS_f _ hl hb) (Ev.pos rfl (Ev.now _)))))))
theorem bBlock_of (bs : List S96) (h : sBlockS bs ≤ 1048576) : ∀ y ∈ bs.map iBlock, bBlock y := by
  intro y hy
  obtain ⟨x, hx, rfl⟩ := List.mem_map.1 hy
  obtain ⟨i, hi, rfl⟩ := List.getElem_of_mem hx
  have h1 := sum_getD_le sBlock z96 bs i hi
  rw [getD_eq hi] at h1
  have hz : sBlock bs[i] = bs[i].f0.length + (bs[i].f0.map sInstr).sum := rfl
  unfold sBlockS at h
  refine ⟨by show (bs[i].f0.map iInstr).length ≤ _; rw [List.length_map]; omega, fun z hz2 => ?_⟩
  obtain ⟨u, hu, rfl⟩ := List.mem_map.1 (show z ∈ bs[i].f0.map iInstr from hz2)
  obtain ⟨j, hj, rfl⟩ := List.getElem_of_mem hu
  have h2 := sum_getD_le sInstr z140 bs[i].f0 j hj
  rw [getD_eq hj] at h2
  have hz3 : sInstr bs[i].f0[j] = bs[i].f0[j].f6.length + bs[i].f0[j].f7.length + bs[i].f0[j].f8.length := rfl
  refine ⟨?_, ?_, ?_⟩
  · show (bs[i].f0[j].f6.map iOperand).length ≤ _; rw [List.length_map]; omega
  · show bs[i].f0[j].f7.length ≤ _; omega
  · show bs[i].f0[j].f8.length ≤ _; omega
end Go.Proofs.Ytoedcnhgobbnfaa.All

/- What reads as data has machine lengths. -/
namespace Go.Proofs.Ytoedcnhgobbnfaa.All
open Go.RowKit Go.Proofs.YtoedcnhgobbnfaaW.PrintWords Go.Proofs.YtoedcnhgobbnfaaW.PrintLast Go.Proofs.YtoedcnhgobbnfaaW.PrintMore
set_option linter.unusedVariables false
set_option linter.unusedSimpArgs false
theorem lBlockS_ok {l : List S96} (h : l.length ≤ 9223372036854775807 ∧ ∀ y ∈ l, ok96 y) : lBlockS l := by
  refine ⟨h.1, fun b hb => ?_⟩
  have h1 := h.2 b hb
  unfold ok96 at h1
  refine ⟨h1.1, fun x hx => ?_⟩
  have h2 := h1.2 x hx
  unfold ok140 at h2
  obtain ⟨_, _, _, _, _, _, h6, h7, h8⟩ := h2
  exact ⟨h6.1, h7.1, h8.1⟩
end Go.Proofs.Ytoedcnhgobbnfaa.All

/- Plain laws: a result's own cells marked, and found marked. -/
namespace Go.Proofs.Ytoedcnhgobbnfaa.All
open Go.RowKit Go.Proofs.YtoedcnhgobbnfaaW.PrintWords Go.Proofs.YtoedcnhgobbnfaaW.PrintLast Go.Proofs.YtoedcnhgobbnfaaW.PrintMore
set_option linter.unusedVariables false
set_option linter.unusedSimpArgs false
def marks (n : Nat) : List Int := (List.range n).map fun (j : Nat) => (1 : Int) + (j : Int)
theorem marks_length (n : Nat) : (marks n).length = n := by simp [marks]
theorem marks_at (n i : Nat) (h : i < n) : rd (marks n) i = 1 + i := by
  simp [rd, marks, List.getElem?_range, h]
theorem markInt64S_f (l : List Int) (hl : l.length ≤ 1000000000000) : Ev (fun k => laws_markInt64S.f k l 1) ((1 : Int) + (l.length : Nat), marks l.length) := by
  unfold laws_markInt64S.f marks
  refine mk_gen (fun (j : Nat) => (1 : Int) + (j : Int)) l (fun out => ((1 : Int) + (l.length : Nat), out)) (fun k out i => laws_markInt64S.l0 k out (1 + i) i) (fun i out r hi ho h => ?_) (fun out ho => ?_)
  · refine Ev.succ ?_
    simp only [laws_markInt64S.l0]
    refine Ev.pos (by omega) (Ev.pos (by omega) ?_)
    rw [wrap64_nat (by omega), wrap64_id (by omega) (by omega)]
    have e : (1 : Int) + ((i + 1 : Nat) : Int) = 1 + (i : Int) + 1 := by omega
    rw [e] at h
    simpa using h
  · refine Ev.succ ?_
    simp only [laws_markInt64S.l0]
    exact Ev.neg (by omega) (Ev.now _)
theorem heldInt64S_f (n : Nat) (hl : n ≤ 1000000000000) : Ev (fun k => laws_heldInt64S.f k (marks n) 1) ((1 : Int) + (n : Nat)) := by
  unfold laws_heldInt64S.f
  refine for_gen ((1 : Int) + (n : Nat)) n (fun k i => laws_heldInt64S.l0 k (marks n) (1 + i) i) (fun i hi h => ?_) ?_
  · refine Ev.succ ?_
    simp only [laws_heldInt64S.l0]
    rw [marks_at n i hi]
    refine Ev.pos (by rw [marks_length]; omega) (Ev.pos (by omega) (Ev.pos rfl ?_))
    rw [wrap64_nat (by omega), wrap64_id (by omega) (by omega)]
    have e : (1 : Int) + ((i + 1 : Nat) : Int) = 1 + (i : Int) + 1 := by omega
    rw [e] at h
    exact h
  · refine Ev.succ ?_
    simp only [laws_heldInt64S.l0]
    exact Ev.neg (by rw [marks_length]; omega) (Ev.now _)
end Go.Proofs.Ytoedcnhgobbnfaa.All

/- How many cells the laws mark. -/
namespace Go.Proofs.Ytoedcnhgobbnfaa.All
open Go.RowKit Go.Proofs.YtoedcnhgobbnfaaW.PrintWords Go.Proofs.YtoedcnhgobbnfaaW.PrintLast Go.Proofs.YtoedcnhgobbnfaaW.PrintMore
set_option linter.unusedVariables false
set_option linter.unusedSimpArgs false
def nB (bs : List S62) : Nat := (bs.map fun b => b.f0.length).sum
theorem cnt_of_s (bs : List S96) : nB (bs.map iBlock) ≤ sBlockS bs ∧ cntL_Block (bs.map iBlock) ≤ 10 * sBlockS bs := by
  have hI : ∀ xs : List S140, cntL_Instr (xs.map iInstr) ≤ 10 * sInstrS xs := by
    intro xs
    unfold cntL_Instr sInstrS
    induction xs with
    | nil => simp
    | cons x xs ih =>
      have h1 : cnt_Instr (iInstr x) = 6 + 4 * x.f6.length + x.f7.length + x.f8.length := by
        unfold cnt_Instr iInstr cntL_int64 cntL_uint64 cntL_Operand
        have h2 : ∀ l : List S158, ((l.map iOperand).map cnt_Operand).sum = 4 * l.length := by
          intro l
          induction l with
          | nil => rfl
          | cons a l ih => simp only [List.map_cons, List.sum_cons, ih, List.length_cons]; have : cnt_Operand (iOperand a) = 4 := rfl; omega
        simp only [h2]
      have h3 : sInstr x = x.f6.length + x.f7.length + x.f8.length := rfl
      simp only [List.map_cons, List.sum_cons, List.length_cons] at ih ⊢
      omega
  unfold nB cntL_Block sBlockS
  induction bs with
  | nil => simp
  | cons x xs ih =>
    have h1 := hI x.f0
    have h2 : cnt_Block (iBlock x) = cntL_Instr (x.f0.map iInstr) := rfl
    have h3 : sBlock x = sInstrS x.f0 := rfl
    have h4 : (iBlock x).f0.length = x.f0.length := by simp [iBlock]
    have h5 : x.f0.length ≤ sInstrS x.f0 := by unfold sInstrS; omega
    simp only [List.map_cons, List.sum_cons, List.length_cons] at ih ⊢
    omega
end Go.Proofs.Ytoedcnhgobbnfaa.All

/- Next and previous blocks: the reference's and the program's lists are one. -/
namespace Go.Proofs.Ytoedcnhgobbnfaa.All
open Go.RowKit Go.Proofs.YtoedcnhgobbnfaaW.PrintWords Go.Proofs.YtoedcnhgobbnfaaW.PrintLast Go.Proofs.YtoedcnhgobbnfaaW.PrintMore
set_option linter.unusedVariables false
set_option linter.unusedSimpArgs false
def gOk (bs : List S62) : Prop := bs.length ≤ 1048576 ∧ ∀ b ∈ bs, bBlock b
def nextOf (bs : List S62) (a : Int) : List Int :=
  if a < 0 then [] else if (bs.length : Int) ≤ a then [] else if (rd_T62 bs a).f0.length = 0 then [] else nextL bs.length (rd_T66 (rd_T62 bs a).f0 (((rd_T62 bs a).f0.length : Int) - 1)).f7
theorem getD_mem {α : Type} {xs : List α} {i : Nat} (h : i < xs.length) (z : α) : xs.getD i z ∈ xs := by rw [getD_eq h]; exact List.getElem_mem h
theorem gOk_at {bs : List S62} (h : gOk bs) {a : Int} (h0 : 0 ≤ a) (h1 : a < (bs.length : Int)) : bBlock (rd_T62 bs a) := h.2 _ (getD_mem (by omega) _)
theorem gOk_last {bs : List S62} (h : gOk bs) {a : Int} (h0 : 0 ≤ a) (h1 : a < (bs.length : Int)) (h2 : (rd_T62 bs a).f0.length ≠ 0) : bInstr (rd_T66 (rd_T62 bs a).f0 (((rd_T62 bs a).f0.length : Int) - 1)) := (gOk_at h h0 h1).2 _ (getD_mem (by omega) _)
theorem nextOf_len {bs : List S62} (h : gOk bs) (a : Int) : (nextOf bs a).length ≤ 1048576 := by
  unfold nextOf
  split
  · simp
  · split
    · simp
    · split
      · simp
      · have h1 := gOk_last h (a := a) (by omega) (by omega) (by assumption)
        have h2 := nextL_len bs.length (rd_T66 (rd_T62 bs a).f0 (((rd_T62 bs a).f0.length : Int) - 1)).f7
        have := h1.2.1
        omega
theorem nextOf_range (bs : List S62) (a : Int) : ∀ x ∈ nextOf bs a, 0 ≤ x ∧ x < (bs.length : Int) := by
  unfold nextOf
  split
  · simp
  · split
    · simp
    · split
      · simp
      · exact nextL_range _ _
theorem nextOf_nodup (bs : List S62) (a : Int) : (nextOf bs a).Nodup := by
  unfold nextOf
  split
  · simp
  · split
    · simp
    · split
      · simp
      · exact nextL_nodup _ _
theorem implNext_f (n : ByteArray) (y : Int) (ps : List Int) (c : Int) (bs : List S62) (a : Int) (h : gOk bs) : impl_NextBlocks.f n y ps c bs a = some (nextOf bs a) := by
  unfold impl_NextBlocks.f nextOf
  by_cases h1 : a < 0
  · rw [if_pos h1, if_pos h1]
  rw [if_neg h1, if_neg h1]
  by_cases h2 : (bs.length : Int) ≤ a
  · rw [if_pos h2, if_pos h2]
  rw [if_neg h2, if_neg h2]
  by_cases h3 : (rd_T62 bs a).f0.length = 0
  · rw [if_pos h3, if_pos h3]
  rw [if_neg h3, if_neg h3]
  have h4 := gOk_last h (a := a) (by omega) (by omega) h3
  have h5 := gOk_at h (a := a) (by omega) (by omega)
  have := h.1
  have := h5.1
  have := h4.2.1
  rw [if_pos ⟨by omega, by omega, by omega⟩]
theorem l4Has_f (l : List Int) (v : Int) (hl : l.length ≤ 9223372036854775806) : Ev (fun k => spec_l4Has.f k l v) (l.contains v) := by
  unfold spec_l4Has.f
  have key : ∀ d i : Nat, i + d = l.length → Ev (fun k => spec_l4Has.l0 k l v (i : Int)) ((l.drop i).contains v) := by
    intro d
    induction d with
    | zero =>
      intro i hi
      obtain rfl : i = l.length := by omega
      refine Ev.succ ?_
      simp only [spec_l4Has.l0]
      rw [List.drop_length]
      exact Ev.neg (by omega) (Ev.some (by simp))
    | succ d ih =>
      intro i hi
      have hlt : i < l.length := by omega
      refine Ev.succ ?_
      simp only [spec_l4Has.l0]
      have e : rd l i = l[i] := by simp [rd, List.getElem?_eq_getElem hlt]
      rw [e, wrap64_nat (by omega), List.drop_eq_getElem_cons hlt, List.contains_cons]
      refine Ev.pos (by omega) (Ev.pos (by omega) ?_)
      by_cases c : l[i] = v
      · exact Ev.pos c (Ev.some (by simp [c]))
      · refine Ev.neg c ?_
        rw [beq_eq_false_iff_ne.2 (Ne.symm c), Bool.false_or]
        exact ih (i + 1) (by omega)
  exact key l.length 0 (by omega)
theorem specNext_f (n : ByteArray) (y : Int) (ps : List Int) (c : Int) (bs : List S62) (a : Int) (h : gOk bs) : Ev (fun k => spec_NextBlocks.f k n y ps c bs a) (nextOf bs a) := by
  unfold spec_NextBlocks.f nextOf
  refine Ev.some_bind ?_
  have done : Ev (fun k => spec_NextBlocks.j0 k a [] true n y ps c bs) [] := by
    refine Ev.succ ?_
    simp only [spec_NextBlocks.j0]
    exact Ev.pos trivial (Ev.now _)
  by_cases h1 : a < 0
  · rw [if_pos h1]
    exact Ev.pos h1 done
  rw [if_neg h1]
  refine Ev.neg h1 ?_
  by_cases h2 : (bs.length : Int) ≤ a
  · rw [if_pos h2]
    exact Ev.pos h2 done
  rw [if_neg h2]
  refine Ev.neg (by omega) (Ev.pos (by omega) (Ev.pos (by omega) ?_))
  by_cases h3 : (rd_T62 bs a).f0.length = 0
  · rw [if_pos h3]
    have e : (((rd_T62 bs a).f0.length : Int) == 0) = true := by rw [h3]; rfl
    rw [e]
    exact done
  rw [if_neg h3]
  have e : (((rd_T62 bs a).f0.length : Int) == 0) = false := by rw [beq_eq_false_iff_ne]; omega
  rw [e]
  have h4 := gOk_last h (a := a) (by omega) (by omega) h3
  have h5 := gOk_at h (a := a) (by omega) (by omega)
  have h6 := h5.1
  have h7 := h4.2.1
  have hb := h.1
  refine Ev.succ ?_
  simp only [spec_NextBlocks.j0]
  rw [wrap64_id (x := ((rd_T62 bs a).f0.length : Int) - 1) (by omega) (by omega)]
  refine Ev.neg (by simp) (Ev.pos (by omega) (Ev.pos (by omega) (Ev.pos (by omega) (Ev.pos (by omega) ?_))))
  generalize rd_T66 (rd_T62 bs a).f0 (((rd_T62 bs a).f0.length : Int) - 1) = x at h4 h7
  have key : ∀ d i : Nat, i + d = x.f7.length → Ev (fun k => spec_NextBlocks.l0 k (nextL bs.length (x.f7.take i)) (i : Int) n y ps c bs x.f0 x.f1 x.f2 x.f3 x.f4 x.f5 x.f6 x.f7 x.f8) (nextL bs.length x.f7) := by
    intro d
    induction d with
    | zero =>
      intro i hi
      obtain rfl : i = x.f7.length := by omega
      refine Ev.succ ?_
      simp only [spec_NextBlocks.l0]
      rw [List.take_length]
      exact Ev.neg (by omega) (Ev.now _)
    | succ d ih =>
      intro i hi
      have hlt : i < x.f7.length := by omega
      have h8 := ih (i + 1) (by omega)
      rw [nextL_take bs.length x.f7 i hlt] at h8
      refine Ev.succ ?_
      simp only [spec_NextBlocks.l0]
      have e1 : rd x.f7 i = x.f7[i] := by simp [rd, List.getElem?_eq_getElem hlt]
      have hlen := nextL_len bs.length (x.f7.take i)
      rw [List.length_take] at hlen
      rw [e1, wrap64_nat (by omega)]
      refine Ev.pos (by omega) (Ev.pos (by omega) ?_)
      unfold stepN at h8
      by_cases c0 : 0 ≤ x.f7[i]
      · by_cases c1 : x.f7[i] < (bs.length : Int)
        · refine Ev.pos c0 (Ev.pos c1 (Ev.bind (l4Has_f _ _ (by omega)) ?_))
          by_cases c2 : (nextL bs.length (x.f7.take i)).contains x.f7[i] = true
          · rw [if_neg (by rw [c2]; simp)] at h8
            exact Ev.pos c2 h8
          · rw [if_pos ⟨c0, c1, by simpa using c2⟩] at h8
            exact Ev.neg c2 (Ev.pos (by omega) h8)
        · rw [if_neg (fun h => c1 h.2.1)] at h8
          exact Ev.pos c0 (Ev.neg c1 h8)
      · rw [if_neg (fun h => c0 h.1)] at h8
        exact Ev.neg c0 h8
  exact key x.f7.length 0 (by omega)
/-- The blocks that go to a block, rising. -/
def prevOf (bs : List S62) (a : Int) : List Int := ((List.range bs.length).filter fun (b : Nat) => (nextOf bs (b : Int)).contains a).map fun (b : Nat) => (b : Int)
def prevTo (bs : List S62) (a : Int) (i : Nat) : List Int := ((List.range i).filter fun (b : Nat) => (nextOf bs (b : Int)).contains a).map fun (b : Nat) => (b : Int)
theorem prevTo_succ (bs : List S62) (a : Int) (i : Nat) : prevTo bs a (i + 1) = prevTo bs a i ++ (if (nextOf bs (i : Int)).contains a = true then [(i : Int)] else []) := by
  unfold prevTo
  rw [List.range_succ, List.filter_append, List.map_append]
  congr 1
  by_cases h : (nextOf bs (i : Int)).contains a = true
  · rw [if_pos h]; simp only [List.filter_cons, h, if_true, List.filter_nil, List.map_cons, List.map_nil]
  · rw [if_neg h]; simp only [List.filter_cons, h, List.filter_nil]; rfl
theorem prevTo_len (bs : List S62) (a : Int) (i : Nat) : (prevTo bs a i).length ≤ i := by
  unfold prevTo
  rw [List.length_map]
  have := List.length_filter_le (fun b : Nat => (nextOf bs (b : Int)).contains a) (List.range i)
  rw [List.length_range] at this
  exact this
theorem specPrev_f (n : ByteArray) (y : Int) (ps : List Int) (c : Int) (bs : List S62) (a : Int) (h : gOk bs) : Ev (fun k => spec_PrevBlocks.f k n y ps c bs a) (prevOf bs a) := by
  unfold spec_PrevBlocks.f
  have hb := h.1
  have key : ∀ d i : Nat, i + d = bs.length → Ev (fun k => spec_PrevBlocks.l0 k a (prevTo bs a i) (i : Int) n y ps c bs) (prevOf bs a) := by
    intro d
    induction d with
    | zero =>
      intro i hi
      obtain rfl : i = bs.length := by omega
      refine Ev.succ ?_
      simp only [spec_PrevBlocks.l0]
      exact Ev.neg (by omega) (Ev.now _)
    | succ d ih =>
      intro i hi
      have h8 := ih (i + 1) (by omega)
      rw [prevTo_succ] at h8
      have hl := prevTo_len bs a i
      have hn := nextOf_len h (i : Int)
      refine Ev.succ ?_
      simp only [spec_PrevBlocks.l0]
      rw [wrap64_nat (by omega)]
      refine Ev.pos (by omega) (Ev.bind (specNext_f n y ps c bs i h) (Ev.bind (l4Has_f _ _ (by omega)) ?_))
      by_cases c2 : (nextOf bs (i : Int)).contains a = true
      · rw [if_pos c2] at h8
        exact Ev.pos c2 (Ev.pos (by omega) h8)
      · rw [if_neg c2, List.append_nil] at h8
        exact Ev.neg c2 h8
  exact key bs.length 0 (by omega)
theorem implPrev_f (n : ByteArray) (y : Int) (ps : List Int) (c : Int) (bs : List S62) (a : Int) (h : gOk bs) : Ev (fun k => impl_PrevBlocks.f k n y ps c bs a) (prevOf bs a) := by
  unfold impl_PrevBlocks.f
  have hb := h.1
  have inner : ∀ (i : Nat) (l : List Int), l.Nodup → l.length ≤ 1048576 → ∀ (r : List Int) (d j : Nat) (acc : List Int), j + d = l.length → acc.length + d ≤ 4194304 → Ev (fun k => impl_PrevBlocks.l0 k a (acc ++ (if (l.drop j).contains a = true then [(i : Int)] else [])) (bs.length : Int) (wrap64 ((i : Int) + 1)) n y ps c bs) r → Ev (fun k => impl_PrevBlocks.l1 k a acc (i : Int) (bs.length : Int) (i : Int) l (l.length : Int) (j : Int) n y ps c bs) r := by
    intro i l hnd hll r d
    induction d with
    | zero =>
      intro j acc hj ha h8
      obtain rfl : j = l.length := by omega
      refine Ev.succ ?_
      simp only [impl_PrevBlocks.l1]
      rw [List.drop_length] at h8
      exact Ev.neg (by omega) (by simpa using h8)
    | succ d ih =>
      intro j acc hj ha h8
      have hlt : j < l.length := by omega
      refine Ev.succ ?_
      simp only [impl_PrevBlocks.l1]
      have e1 : rd l j = l[j] := by simp [rd, List.getElem?_eq_getElem hlt]
      rw [e1, wrap64_nat (show j < 9223372036854775807 by omega)]
      rw [List.drop_eq_getElem_cons hlt, List.contains_cons] at h8
      refine Ev.pos (by omega) (Ev.pos (by omega) (Ev.pos (by omega) ?_))
      by_cases e : l[j] = a
      · refine Ev.pos e (Ev.pos (by omega) (ih (j + 1) _ (by omega) (by simp; omega) ?_))
        have hno : (l.drop (j + 1)).contains a = false := by
          have h9 : (l.drop j).Nodup := hnd.sublist (List.drop_sublist _ _)
          rw [List.drop_eq_getElem_cons hlt, List.nodup_cons, e] at h9
          simpa using h9.1
        rw [hno]
        simpa [e] using h8
      · refine Ev.neg e (ih (j + 1) _ (by omega) (by omega) ?_)
        rw [beq_eq_false_iff_ne.2 (Ne.symm e), Bool.false_or] at h8
        exact h8
  have key : ∀ d i : Nat, i + d = bs.length → Ev (fun k => impl_PrevBlocks.l0 k a (prevTo bs a i) (bs.length : Int) (i : Int) n y ps c bs) (prevOf bs a) := by
    intro d
    induction d with
    | zero =>
      intro i hi
      obtain rfl : i = bs.length := by omega
      refine Ev.succ ?_
      simp only [impl_PrevBlocks.l0]
      exact Ev.neg (by omega) (Ev.now _)
    | succ d ih =>
      intro i hi
      have h8 := ih (i + 1) (by omega)
      rw [prevTo_succ] at h8
      have hl := prevTo_len bs a i
      have hn := nextOf_len h (i : Int)
      refine Ev.succ ?_
      simp only [impl_PrevBlocks.l0]
      refine Ev.pos (by omega) (Ev.eq_bind (implNext_f n y ps c bs i h) (inner i _ (nextOf_nodup bs i) hn _ (nextOf bs i).length 0 _ (by omega) (by omega) ?_))
      rw [wrap64_nat (by omega), List.drop_zero]
      exact h8
  exact key bs.length 0 (by omega)
theorem prevOf_len (bs : List S62) (a : Int) : (prevOf bs a).length ≤ bs.length := prevTo_len bs a bs.length
end Go.Proofs.Ytoedcnhgobbnfaa.All

/- FnExactPrevBlocks: the printed law is true of all arguments. -/
namespace Go.Proofs.Ytoedcnhgobbnfaa.Pure
open Go.Proofs.Ytoedcnhgobbnfaa.All
open Go.RowKit Go.Proofs.YtoedcnhgobbnfaaW.PrintWords Go.Proofs.YtoedcnhgobbnfaaW.PrintLast Go.Proofs.YtoedcnhgobbnfaaW.PrintMore
set_option linter.unusedVariables false
set_option linter.unusedSimpArgs false
theorem FnExactPrevBlocks (a0_0 : ByteArray) (a0_1 : Int) (l0_2 : List Int) (a0_3 : Int) (l0_4 : List S96) (a1 : Int) (h0 : a0_0.size ≤ 9223372036854775807) (_ : (Lit.int .i64 a0_1).wf = true) (h2 : l0_2.length ≤ 9223372036854775807 ∧ ∀ y ∈ l0_2, (Lit.int .i64 y).wf = true) (_ : (Lit.int .i64 a0_3).wf = true) (h4 : l0_4.length ≤ 9223372036854775807 ∧ ∀ y ∈ l0_4, ok96 y) (_ : (Lit.int .i64 a1).wf = true) :
    ∃ k, laws_FnExactPrevBlocks.f k a0_0 a0_1 l0_2 a0_3 l0_4 a1 = some true := by
  refine Ev.rounds ?_
  obtain ⟨r, hr, hc⟩ := szFunc_f a0_0 a0_1 l0_2 a0_3 l0_4 h0 h2.1 (lBlockS_ok h4)
  unfold laws_FnExactPrevBlocks.f
  refine Ev.bind hr ?_
  by_cases hneg : r < 0
  · exact Ev.pos hneg (Ev.now _)
  refine Ev.neg hneg ?_
  have hs : a0_0.size + l0_2.length + sBlockS l0_4 ≤ 1048576 := by omega
  have ht := toFunc_f a0_0 a0_1 l0_2 a0_3 l0_4 hs
  have hb := bBlock_of l0_4 (by omega)
  have hc := cnt_of_s l0_4
  have hl : (l0_4.map iBlock).length ≤ 1048576 := by rw [List.length_map]; unfold sBlockS at hs; omega
  have hg : gOk (l0_4.map iBlock) := ⟨hl, hb⟩
  have hu : (prevOf (l0_4.map iBlock) a1).length ≤ 1048576 := Nat.le_trans (prevOf_len (l0_4.map iBlock) a1) hg.1
  have hS := specPrev_f a0_0 a0_1 l0_2 a0_3 (l0_4.map iBlock) a1 hg
  have hI := implPrev_f a0_0 a0_1 l0_2 a0_3 (l0_4.map iBlock) a1 hg
  generalize prevOf (l0_4.map iBlock) a1 = y at hS hI hu
  have hE := eqInt64S_f y (by omega)
  have hM := markInt64S_f y (by omega)
  have hH := heldInt64S_f y.length (by omega)
  have hF := eqFunc_f a0_0 a0_1 l0_2 a0_3 (l0_4.map iBlock) (by omega) hl hb
  have hK : laws_markFunc.f a0_0 a0_1 l0_2 a0_3 (l0_4.map iBlock) 1 = some ((1 : Int) + (cntL_int64 l0_2 : Nat) + (cntL_Block (l0_4.map iBlock) : Nat)) := by
    have e : cntL_int64 l0_2 = l0_2.length := rfl
    unfold laws_markFunc.f
    rw [if_pos (by omega), if_pos (by omega)]
  refine Ev.bind ht (Ev.bind hS (Ev.bind ht (Ev.bind hI (Ev.bind hE (Ev.pos rfl (Ev.bind ht (Ev.bind hF (Ev.pos rfl (Ev.eq_bind hK (Ev.neg (by omega) (Ev.bind hE ?_)))))))))))
  refine Ev.succ ?_
  simp only [laws_FnExactPrevBlocks.j0]
  refine Ev.neg (by simp) (Ev.bind hM (Ev.bind hH (Ev.neg (by omega) (Ev.pos rfl ?_))))
  refine Ev.bind ht (Ev.bind hI (Ev.bind hE (Ev.pos rfl (Ev.bind hH ?_))))
  exact Ev.neg (by omega) (Ev.pos rfl (Ev.now _))
end Go.Proofs.Ytoedcnhgobbnfaa.Pure
