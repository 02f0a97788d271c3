/- Part 5 of the proof of FnExactNextBlocks: functions of the translation with what they return, and plain laws of these. Written by programs of this session over the kit's print, and by hand. -/
import Derived.Test.YtoedcnhgobbnfaaProg
import Derived.Test.YtoedcnhgobbnfaaWApart
import Derived.Test.YtoedcnhgobbnfaaWArr
import Derived.Test.YtoedcnhgobbnfaaWFoot
import Derived.Test.YtoedcnhgobbnfaaWGuard
import Derived.Test.YtoedcnhgobbnfaaWKept
import Derived.Test.YtoedcnhgobbnfaaWLast
import Derived.Test.YtoedcnhgobbnfaaWMore
import Derived.Test.YtoedcnhgobbnfaaWN
import Derived.Test.YtoedcnhgobbnfaaWNEv
import Derived.Test.YtoedcnhgobbnfaaWQPut
import Derived.Test.YtoedcnhgobbnfaaWRepsOne
import Derived.Test.YtoedcnhgobbnfaaWShare
import Derived.Test.YtoedcnhgobbnfaaWTab
import Derived.Test.YtoedcnhgobbnfaaWWords
import Derived.Test.YtoedcnhgobbnfaaWZeros
import Derived.Below
import Derived.Deep.Draws
import Derived.Deep.AppendLies
import Derived.Maps.AppendAt
import Derived.OwnWalk
import Derived.Laws.BytesArg
import Derived.Laws.MakeOwn
import Derived.Laws.OwnMore
import Derived.Deep.OwnRows
import Derived.Tactics
import Derived.Lib.ConvBytes
import Derived.Laws.Slices
import Derived.WalkKit
import Derived.KernelRfl
import Derived.RowKit3
import Derived.Deep.LoopGhost
import Derived.Deep.QuietTactic
import Derived.BigQuiet
import Derived.WideLaws
import Derived.Deep.DeepCutAuto
import Derived.Deep.CutBlock
import Derived.Deep.RegionHeld3
import Derived.Laws.Rows
import Derived.Lib.AppendStr
import Derived.ArgAppend
import Derived.Laws.IdiomCopy
import Derived.OrdersHeld
import Derived.Laws.BitsLemmas
import Derived.RowKit
import Derived.Maps.OwnSet
import Derived.Maps.OwnOps
import Derived.Deep.Slices
import Derived.ChangeArms
import Derived.ProofKit
import Derived.OpenShut
import Derived.ShutString
import Derived.ChangeOld
import Derived.SizedLaws
import Derived.Test.YtoedcnhgobbnfaaCFnExactNextBlocks1
import Derived.Test.YtoedcnhgobbnfaaCFnExactNextBlocks2
import Derived.Test.YtoedcnhgobbnfaaCFnExactNextBlocks3
import Derived.Test.YtoedcnhgobbnfaaCFnExactNextBlocks4
namespace Go.Proofs.Ytoedcnhgobbnfaa.All
open Go.RowKit Go.Proofs.YtoedcnhgobbnfaaW.PrintWords Go.Proofs.YtoedcnhgobbnfaaW.PrintLast Go.Proofs.YtoedcnhgobbnfaaW.PrintMore
attribute [local go_sem] max2_int min2_int max_two min_two max_three min_three max_four min_four   -- for this text's walks alone
set_option linter.unusedVariables false
set_option linter.unusedSimpArgs false

/-! ### spec_PrevBlocks: function 23 -/
def spec_PrevBlocks.l0 : Nat → Int → List Int → Int → ByteArray → Int → List Int → Int → List (S62) → Option (List Int)
  | 0, _, _, _, _, _, _, _, _ => none
  | k + 1, x1, x5, x6, x1111000, x1111001, x1111002, x1111003, x1111004 => if x6 < (x1111004.length : Int) then ((spec_NextBlocks.f k x1111000 x1111001 x1111002 x1111003 x1111004 x6).bind fun t1114 => ((spec_l4Has.f k t1114 x1).bind fun t1117 => (if t1117 = true then (if x5.length < 17592186044416 then (spec_PrevBlocks.l0 k x1 (x5 ++ [x6]) (wrap64 (x6 + 1)) x1111000 x1111001 x1111002 x1111003 x1111004) else (none)) else (spec_PrevBlocks.l0 k x1 x5 (wrap64 (x6 + 1)) x1111000 x1111001 x1111002 x1111003 x1111004)))) else (some x5)
def spec_PrevBlocks.f (k : Nat) (a0_0 : ByteArray) (a0_1 : Int) (l0_2 : List Int) (a0_3 : Int) (l0_4 : List (S62)) (a1 : Int) : Option (List Int) := spec_PrevBlocks.l0 k a1 (([] : List Int)) 0 a0_0 a0_1 l0_2 a0_3 l0_4
set_option maxHeartbeats 8000000 in
set_option maxRecDepth 100000 in
theorem spec_PrevBlocks.calls (k : Nat) (a0_0 : ByteArray) (a0_1 : Int) (A0_2 : Option Addr) (c0_2 : Nat) (l0_2 : List Int) (a0_3 : Int) (A0_4 : Option Addr) (c0_4 : Nat) (l0_4 : List (S62)) (a1 : Int) (r : List Int) (w : World) (hr0_2 : Kd.C (Kd.int .i64) w A0_2 l0_2.length l0_2) (hc0_2 : l0_2.length ≤ c0_2) (hr0_4 : Kd.C k62 w A0_4 l0_4.length l0_4) (hc0_4 : l0_4.length ≤ c0_4) (h : spec_PrevBlocks.f k a0_0 a0_1 l0_2 a0_3 l0_4 a1 = some r) :
    Calls Try.prog 23 #[.agg #[.string a0_0, .int .i64 a0_1, .slice A0_2 l0_2.length c0_2, .int .i64 a0_3, .slice A0_4 l0_4.length c0_4], .int .i64 a1] w fun e w' => ∃ v0_ : Value, e = .returned (v0_) ∧ Kd.R (Kd.int .i64) 2 w' w.heap.size (fun _ => True) v0_ r ∧ Below w.heap.size w w' := by
  have hu30 := Try.underlying30
  have HR0_2 := Aside0.mk hr0_2
  have HC0_2 := Aside0.mk hc0_2
  clear hr0_2 hc0_2
  have HR0_4 := Aside0.mk hr0_4
  have HC0_4 := Aside0.mk hc0_4
  clear hr0_4 hc0_4
  have HB := Aside0.mk (Below.refl w.heap.size w)
  have H : (spec_PrevBlocks.l0 k a1 (([] : List Int)) 0 a0_0 a0_1 l0_2 a0_3 l0_4) = some r := h
  clear h
  obtain ⟨y1111, hy1111⟩ : ∃ y_ : List Int, y_ = (([] : List Int)) := ⟨_, rfl⟩
  replace H : (spec_PrevBlocks.l0 k a1 y1111 0 a0_0 a0_1 l0_2 a0_3 l0_4) = some r := by first | (rw [hy1111]; with_reducible exact H) | (have H2_ := (Option.bind_some _ _).symm.trans H; rw [hy1111]; with_reducible exact H2_) | (have H2_ := (Option.bind_some _ _).symm.trans H; with_reducible exact H2_) | with_reducible exact H | (rw [hy1111]; exact H) | exact H
  have Ny1111 := Aside0.mk hy1111
  clear hy1111
  have H' := Aside0.mk H
  clear H
  go_enter Try.func23, Try.ntmps23
  go_wp2_with (first | ((with_reducible refine gate_dst (N := 2) rfl ?_); refine box_event ?hg (N := 2) ?hd (cs := #[.string a0_0, .int .i64 a0_1, .slice A0_2 l0_2.length c0_2, .int .i64 a0_3, .slice A0_4 l0_4.length c0_4]) (t := 30) ?hr ?_; (case hd => rfl); (case hg => rfl); (case hr => first | (go_simp; done) | (go_simp; rfl)); intro gb1110 hg w3 hbox hb; have n0_ := Aside0.mk (below_step (by repeat (first | (with_reducible first | exact HB.out | apply below_alloc | apply pw_below_drewN | apply below_drew1) | exact HB.out)) hb); have n1_ := Aside0.mk (hbox); have n2_ := Aside0.mk ((by rw [hg]; exact (below_size (by repeat (first | (with_reducible first | exact HB.out | apply below_alloc | apply pw_below_drewN | apply below_drew1) | exact HB.out))) : w.heap.size ≤ gb1110)); have n3_ := Aside0.mk ((by rw [hg]; exact (below_size (by repeat (first | (with_reducible first | exact HB.out | apply below_alloc | apply pw_below_drewN | apply below_drew1) | exact HB.out))) : w.heap.size ≤ gb1110)); clear HB; have HB := n0_; have BK1110 := n1_; have GW1110 := n2_; have GE1110 := n3_; clear n0_ n1_ n2_ n3_; clear hb hbox hg) | ((with_reducible refine gate_dst (N := 7) rfl ?_); refine Kd.R_lit (Kd.int .i64) _ 2 ?hg (N := 7) ?hd (xs := ([] : List Int)) (inner := []) (ok := fun _ => True) (okp := fun _ => True) ?hr ?hp (fun _ hk => hk) trivial (Below.refl _ _) (Nat.le_refl _) (by simp) ?_; (case hd => rfl); (case hg => rfl); (case hr => first | (go_simp; done) | (go_simp; rfl)); (case hp => exact (Reps.none _ _)); intro v1112 w4 ho5 hb hg_ hnew_; clear hg_ hnew_; (first | rw [← Ny1111.out] at ho5 | (simp only [Int.reduceToNat] at ho5; rw [← Ny1111.out] at ho5)); have n0_ := Aside0.mk (Kd.R_lower ho5 (below_size (by repeat (first | (with_reducible first | exact HB.out | apply below_alloc | apply pw_below_drewN | apply below_drew1 | refine below_set ?_ GE1110.out) | exact HB.out)))); have n1_ := Aside0.mk (blk_below (g := gb1110) (o := .cells #[.string a0_0, .int .i64 a0_1, .slice A0_2 l0_2.length c0_2, .int .i64 a0_3, .slice A0_4 l0_4.length c0_4] 30 (0, 0)) (by (with_reducible repeat (first | refine blk_drewN ?_ _ | refine blk_drew ?_ | refine blk_alloc ?_ _)); exact BK1110.out) hb); have n2_ := Aside0.mk (below_step (by repeat (first | (with_reducible first | exact HB.out | apply below_alloc | apply pw_below_drewN | apply below_drew1 | refine below_set ?_ GE1110.out) | exact HB.out)) hb); clear BK1110; clear HB; have HO1113 := n0_; have BK1110 := n1_; have HB := n2_; clear n0_ n1_ n2_; clear hb ho5))
  go_loopg [5, 6] k (fun kq v5 v6 w' => ∃ (x5_1 : List Int) (x6_1 : Int), v6 = .int .i64 x6_1 ∧ Aside0 (spec_PrevBlocks.l0 kq a1 x5_1 x6_1 a0_0 a0_1 l0_2 a0_3 l0_4 = some r) ∧ Aside0 (kq ≤ k) ∧ Aside0 (Kd.R (Kd.int .i64) 2 w' w.heap.size (fun _ => True) v5 x5_1) ∧ Aside0 (w'.heap[gb1110]? = some (.cells #[.string a0_0, .int .i64 a0_1, (.slice A0_2 l0_2.length c0_2), .int .i64 a0_3, (.slice A0_4 l0_4.length c0_4)] 30 (0, 0))) ∧ Aside0 (Below w.heap.size w w'))
  case atStart => exact ⟨(y1111), (0), (by first | rfl | (simp; done) | (simp [*]; done)), H', ⟨Nat.le_refl _⟩, ⟨by (with_reducible repeat (first | apply Kd.R_alloc | apply Kd.R_drewN | apply Kd.R_drew)); exact HO1113.out⟩, ⟨by (with_reducible repeat (first | refine blk_drewN ?_ _ | refine blk_drew ?_ | refine blk_alloc ?_ _)); exact BK1110.out⟩, ⟨by repeat (first | (with_reducible first | exact HB.out | apply below_alloc | apply pw_below_drewN | apply below_drew1 | refine below_set ?_ GE1110.out) | exact HB.out)⟩⟩
  case round =>
    clear H'
    try clear c2
    try clear p2
    obtain ⟨x5_1, x6_1, rfl, HA, HK1, HO_5, BK1110, HB⟩ := hrel
    cases gk with
    | zero => exact absurd HA.out (by simp [spec_PrevBlocks.l0])
    | succ k1 =>
      have H := HA.out
      clear HA
      simp only [spec_PrevBlocks.l0] at H
      by_cases c6 : x6_1 < (l0_4.length : Int)
      · rw [if_pos c6] at H
        have c6b0 : decide (x6_1 < (l0_4.length : Int)) = true := decide_eq_true c6
        clear c6
        replace H := Option.bind_eq_some_iff.mp H
        obtain ⟨t1114, A70, H⟩ := H
        replace H : ((spec_l4Has.f k1 t1114 a1).bind fun t1117 => (if t1117 = true then (if x5_1.length < 17592186044416 then (spec_PrevBlocks.l0 k1 a1 (x5_1 ++ [x6_1]) (wrap64 (x6_1 + 1)) a0_0 a0_1 l0_2 a0_3 l0_4) else (none)) else (spec_PrevBlocks.l0 k1 a1 x5_1 (wrap64 (x6_1 + 1)) a0_0 a0_1 l0_2 a0_3 l0_4))) = some r := H
        have A7 := Aside0.mk A70
        clear A70
        replace H := Option.bind_eq_some_iff.mp H
        obtain ⟨t1117, A80, H⟩ := H
        replace H : (if t1117 = true then (if x5_1.length < 17592186044416 then (spec_PrevBlocks.l0 k1 a1 (x5_1 ++ [x6_1]) (wrap64 (x6_1 + 1)) a0_0 a0_1 l0_2 a0_3 l0_4) else (none)) else (spec_PrevBlocks.l0 k1 a1 x5_1 (wrap64 (x6_1 + 1)) a0_0 a0_1 l0_2 a0_3 l0_4)) = some r := H
        have A8 := Aside0.mk A80
        clear A80
        by_cases c9 : t1117 = true
        · subst c9
          have H1 : (if x5_1.length < 17592186044416 then (spec_PrevBlocks.l0 k1 a1 (x5_1 ++ [x6_1]) (wrap64 (x6_1 + 1)) a0_0 a0_1 l0_2 a0_3 l0_4) else (none)) = some r := by rw [if_pos rfl] at H; exact H
          clear H
          have H := H1
          clear H1
          by_cases c10 : x5_1.length < 17592186044416
          · rw [if_pos c10] at H
            have LMc10 := Aside0.mk c10
            clear c10
            obtain ⟨y1118, hy1118⟩ : ∃ y_ : List Int, y_ = (x5_1 ++ [x6_1]) := ⟨_, rfl⟩
            replace H : (spec_PrevBlocks.l0 k1 a1 y1118 (wrap64 (x6_1 + 1)) a0_0 a0_1 l0_2 a0_3 l0_4) = some r := by first | (rw [hy1118]; with_reducible exact H) | (have H2_ := (Option.bind_some _ _).symm.trans H; rw [hy1118]; with_reducible exact H2_) | (have H2_ := (Option.bind_some _ _).symm.trans H; with_reducible exact H2_) | with_reducible exact H | (rw [hy1118]; exact H) | exact H
            have Ny1118 := Aside0.mk hy1118
            clear hy1118
            have H' := Aside0.mk H
            clear H
            have hcz11_0 : wr.cell? ⟨gb1110, 0, none⟩ = some (.string a0_0) := (blk_cell BK1110.out 0).trans rfl
            have hcz11_1 : wr.cell? ⟨gb1110, 1, none⟩ = some (.int .i64 a0_1) := (blk_cell BK1110.out 1).trans rfl
            have hcz11_2 : wr.cell? ⟨gb1110, 2, none⟩ = some (.slice A0_2 l0_2.length c0_2) := (blk_cell BK1110.out 2).trans rfl
            have hcz11_3 : wr.cell? ⟨gb1110, 3, none⟩ = some (.int .i64 a0_3) := (blk_cell BK1110.out 3).trans rfl
            have hcz11_4 : wr.cell? ⟨gb1110, 4, none⟩ = some (.slice A0_4 l0_4.length c0_4) := (blk_cell BK1110.out 4).trans rfl
            have hfz11_0 := blk_frozen BK1110.out 0
            have hfz11_1 := blk_frozen BK1110.out 1
            have hfz11_2 := blk_frozen BK1110.out 2
            have hfz11_3 := blk_frozen BK1110.out 3
            have hfz11_4 := blk_frozen BK1110.out 4
            go_wp2_with (first | ((with_reducible refine gate_callee (f := 17) rfl ?_); refine goesL_ (some 17) rfl rfl Try.func17 (by kernel_rfl) rfl #[.agg #[.string a0_0, .int .i64 a0_1, .slice A0_2 l0_2.length c0_2, .int .i64 a0_3, .slice A0_4 l0_4.length c0_4], .int .i64 x6_1] rfl (by (try simp only [List.map_toArray, List.map_cons, List.map_nil]); first | done | rfl | (simp only [List.length_drop, List.length_take]; rfl)) ?_; (with_reducible refine (spec_NextBlocks.calls k1 a0_0 a0_1 _ _ l0_2 a0_3 _ _ l0_4 x6_1 t1114 _ ?side1 ?side2 ?side3 ?side4 A7.out).mono ?_); (case side1 => repeat (first | exact (Kd.C_below HR0_2.out HB.out) | (with_reducible refine Kd.C_alloc ?_ _) | (with_reducible refine Kd.C_drewN ?_ _) | (with_reducible refine Kd.C_drew ?_))); (case side2 => exact HC0_2.out); (case side3 => repeat (first | exact (Kd.C_below HR0_4.out HB.out) | (with_reducible refine Kd.C_alloc ?_ _) | (with_reducible refine Kd.C_drewN ?_ _) | (with_reducible refine Kd.C_drew ?_))); (case side4 => exact HC0_4.out); rintro e w12 ⟨v1115, rfl, ho0, hb⟩; refine ⟨_, rfl, ?_⟩; have n0_ := Aside0.mk (Kd.R_elder' (by (with_reducible repeat (first | apply Kd.R_alloc | apply Kd.R_drewN | apply Kd.R_drew)); exact HO_5.out) (Kd.R_base ho0) hb); have n1_ := Aside0.mk (Kd.R_lower (Kd.R_new' ho0 (Kd.R_lt (by (with_reducible repeat (first | apply Kd.R_alloc | apply Kd.R_drewN | apply Kd.R_drew)); exact HO_5.out))) (below_size (by repeat (first | (with_reducible first | exact HB.out | apply below_alloc | apply pw_below_drewN | apply below_drew1 | refine below_set ?_ GE1110.out) | exact HB.out)))); have n2_ := Aside0.mk (blk_below (g := gb1110) (o := .cells #[.string a0_0, .int .i64 a0_1, .slice A0_2 l0_2.length c0_2, .int .i64 a0_3, .slice A0_4 l0_4.length c0_4] 30 (0, 0)) (by (with_reducible repeat (first | refine blk_drewN ?_ _ | refine blk_drew ?_ | refine blk_alloc ?_ _)); exact BK1110.out) hb); have n3_ := Aside0.mk (below_step (by repeat (first | (with_reducible first | exact HB.out | apply below_alloc | apply pw_below_drewN | apply below_drew1 | refine below_set ?_ GE1110.out) | exact HB.out)) hb); clear HO_5; clear BK1110; clear HB; have HO_5 := n0_; have HO1116 := n1_; have BK1110 := n2_; have HB := n3_; clear n0_ n1_ n2_ n3_; (try clear hb); (try clear hb2); (try clear hk); (try clear hi); (try clear ho0); obtain ⟨Ao13, co13, eo13⟩ := Kd.R_slice HO1116.out; subst eo13) | ((with_reducible refine gate_callee (f := 51) rfl ?_); refine goesL_ (some 19) rfl rfl Try.func51 (by kernel_rfl) rfl #[.slice Ao13 t1114.length co13, .int .i64 a1] rfl (by (try simp only [List.map_toArray, List.map_cons, List.map_nil]); first | done | rfl | (simp only [List.length_drop, List.length_take]; rfl)) ?_; (with_reducible refine (spec_l4Has.calls k1 _ _ t1114 a1 true _ ?side1 ?side2 A8.out).mono ?_); (case side1 => repeat (first | exact (Kd.R_reads' HO1116.out).2.2 | (with_reducible refine Kd.C_alloc ?_ _) | (with_reducible refine Kd.C_drewN ?_ _) | (with_reducible refine Kd.C_drew ?_))); (case side2 => exact (Kd.R_reads' HO1116.out).2.1); rintro e w' ⟨rfl, ⟨nd, rfl⟩⟩; refine ⟨_, rfl, ?_⟩) | ((with_reducible refine gate_builtin (b := .append) (xs := #[.tmp 20, .tmp 22]) rfl ?_); at_builtin; refine Kd.R_append (Kd.int .i64) (w0 := w) w.heap.size rfl (.tmp 20) (.tmp 22) 22 2 (.int .i64 0) 8 rfl Try.underlying22 info2 rfl (by decide) (by omega) u5 x5_1 x6_1 [.int .i64 x6_1] (fun k_ => some k_ ≠ (.slice Ao13 t1114.length co13 : Value).ownBlock) (fun _ => False) rfl rfl ?aP (fun _ hk => hk.elim) ?aF ?aO ?aB ?aS ?aL ?_; (case aP => exact rfl); (case aB => exact (by repeat (first | (with_reducible first | exact HB.out | apply below_alloc | apply pw_below_drewN | apply below_drew1 | refine below_set ?_ GE1110.out) | exact HB.out))); (case aF => exact (fun k_ hk => Kd.fresh' (Kd.R_lt (by (with_reducible repeat (first | apply Kd.R_alloc | apply Kd.R_drewN | apply Kd.R_drew)); exact HO1116.out)) k_ hk)); (case aO => exact (by (with_reducible repeat (first | apply Kd.R_alloc | apply Kd.R_drewN | apply Kd.R_drew)); exact Kd.R_mono HO_5.out (fun _ hk => hk.2))); (case aS => exact (below_size (by repeat (first | (with_reducible first | exact HB.out | apply below_alloc | apply pw_below_drewN | apply below_drew1 | refine below_set ?_ GE1110.out) | exact HB.out)))); (case aL => have := LMc10.out; omega); intro v1119 w14 ho hb hg hat; rw [← Ny1118.out] at ho; have n0_ := Aside0.mk (blk_grown (g := gb1110) (o := .cells #[.string a0_0, .int .i64 a0_1, .slice A0_2 l0_2.length c0_2, .int .i64 a0_3, .slice A0_4 l0_4.length c0_4] 30 (0, 0)) (by (with_reducible repeat (first | refine blk_drewN ?_ _ | refine blk_drew ?_ | refine blk_alloc ?_ _)); exact BK1110.out) hg (Kd.R_ne HO_5.out BK1110.out (by decide))); have n1_ := Aside0.mk (Kd.R_after (ok := (fun _ => True)) (by (with_reducible repeat (first | apply Kd.R_alloc | apply Kd.R_drewN | apply Kd.R_drew)); exact HO1116.out) hg hat); have n2_ := Aside0.mk (hb); have n3_ := Aside0.mk (ho); clear BK1110; clear HO1116; clear HB; clear HO_5; have BK1110 := n0_; have HO1116 := n1_; have HB := n2_; have HO1120 := n3_; clear n0_ n1_ n2_ n3_; clear ho hb hg hat))
            go_roundg k1
            case measure => have := HK1.out; omega
            case rel => exact ⟨(y1118), (wrap64 (x6_1 + 1)), (by first | rfl | (simp; done) | (simp [*]; done)), H', ⟨by have := HK1.out; omega⟩, ⟨by (with_reducible repeat (first | apply Kd.R_alloc | apply Kd.R_drewN | apply Kd.R_drew)); exact Kd.R_mono HO1120.out (fun _ hk => trivial)⟩, ⟨by (with_reducible repeat (first | refine blk_drewN ?_ _ | refine blk_drew ?_ | refine blk_alloc ?_ _)); exact BK1110.out⟩, ⟨by repeat (first | (with_reducible first | exact HB.out | apply below_alloc | apply pw_below_drewN | apply below_drew1 | refine below_set ?_ GE1110.out) | exact HB.out)⟩⟩
          · rw [if_neg c10] at H
            exact absurd H (by simp)
        · replace c9 := Bool.eq_false_iff.mpr c9
          subst c9
          have H1 : (spec_PrevBlocks.l0 k1 a1 x5_1 (wrap64 (x6_1 + 1)) a0_0 a0_1 l0_2 a0_3 l0_4) = some r := by rw [if_neg (show ¬ (false = true) by decide)] at H; exact H
          clear H
          have H := H1
          clear H1
          have H' := Aside0.mk H
          clear H
          have hcz15_0 : wr.cell? ⟨gb1110, 0, none⟩ = some (.string a0_0) := (blk_cell BK1110.out 0).trans rfl
          have hcz15_1 : wr.cell? ⟨gb1110, 1, none⟩ = some (.int .i64 a0_1) := (blk_cell BK1110.out 1).trans rfl
          have hcz15_2 : wr.cell? ⟨gb1110, 2, none⟩ = some (.slice A0_2 l0_2.length c0_2) := (blk_cell BK1110.out 2).trans rfl
          have hcz15_3 : wr.cell? ⟨gb1110, 3, none⟩ = some (.int .i64 a0_3) := (blk_cell BK1110.out 3).trans rfl
          have hcz15_4 : wr.cell? ⟨gb1110, 4, none⟩ = some (.slice A0_4 l0_4.length c0_4) := (blk_cell BK1110.out 4).trans rfl
          have hfz15_0 := blk_frozen BK1110.out 0
          have hfz15_1 := blk_frozen BK1110.out 1
          have hfz15_2 := blk_frozen BK1110.out 2
          have hfz15_3 := blk_frozen BK1110.out 3
          have hfz15_4 := blk_frozen BK1110.out 4
          go_wp2_with (first | ((with_reducible refine gate_callee (f := 17) rfl ?_); refine goesL_ (some 17) rfl rfl Try.func17 (by kernel_rfl) rfl #[.agg #[.string a0_0, .int .i64 a0_1, .slice A0_2 l0_2.length c0_2, .int .i64 a0_3, .slice A0_4 l0_4.length c0_4], .int .i64 x6_1] rfl (by (try simp only [List.map_toArray, List.map_cons, List.map_nil]); first | done | rfl | (simp only [List.length_drop, List.length_take]; rfl)) ?_; (with_reducible refine (spec_NextBlocks.calls k1 a0_0 a0_1 _ _ l0_2 a0_3 _ _ l0_4 x6_1 t1114 _ ?side1 ?side2 ?side3 ?side4 A7.out).mono ?_); (case side1 => repeat (first | exact (Kd.C_below HR0_2.out HB.out) | (with_reducible refine Kd.C_alloc ?_ _) | (with_reducible refine Kd.C_drewN ?_ _) | (with_reducible refine Kd.C_drew ?_))); (case side2 => exact HC0_2.out); (case side3 => repeat (first | exact (Kd.C_below HR0_4.out HB.out) | (with_reducible refine Kd.C_alloc ?_ _) | (with_reducible refine Kd.C_drewN ?_ _) | (with_reducible refine Kd.C_drew ?_))); (case side4 => exact HC0_4.out); rintro e w16 ⟨v1115, rfl, ho0, hb⟩; refine ⟨_, rfl, ?_⟩; have n0_ := Aside0.mk (Kd.R_elder' (by (with_reducible repeat (first | apply Kd.R_alloc | apply Kd.R_drewN | apply Kd.R_drew)); exact HO_5.out) (Kd.R_base ho0) hb); have n1_ := Aside0.mk (Kd.R_lower (Kd.R_new' ho0 (Kd.R_lt (by (with_reducible repeat (first | apply Kd.R_alloc | apply Kd.R_drewN | apply Kd.R_drew)); exact HO_5.out))) (below_size (by repeat (first | (with_reducible first | exact HB.out | apply below_alloc | apply pw_below_drewN | apply below_drew1 | refine below_set ?_ GE1110.out) | exact HB.out)))); have n2_ := Aside0.mk (blk_below (g := gb1110) (o := .cells #[.string a0_0, .int .i64 a0_1, .slice A0_2 l0_2.length c0_2, .int .i64 a0_3, .slice A0_4 l0_4.length c0_4] 30 (0, 0)) (by (with_reducible repeat (first | refine blk_drewN ?_ _ | refine blk_drew ?_ | refine blk_alloc ?_ _)); exact BK1110.out) hb); have n3_ := Aside0.mk (below_step (by repeat (first | (with_reducible first | exact HB.out | apply below_alloc | apply pw_below_drewN | apply below_drew1 | refine below_set ?_ GE1110.out) | exact HB.out)) hb); clear HO_5; clear BK1110; clear HB; have HO_5 := n0_; have HO1116 := n1_; have BK1110 := n2_; have HB := n3_; clear n0_ n1_ n2_ n3_; (try clear hb); (try clear hb2); (try clear hk); (try clear hi); (try clear ho0); obtain ⟨Ao17, co17, eo17⟩ := Kd.R_slice HO1116.out; subst eo17) | ((with_reducible refine gate_callee (f := 51) rfl ?_); refine goesL_ (some 19) rfl rfl Try.func51 (by kernel_rfl) rfl #[.slice Ao17 t1114.length co17, .int .i64 a1] rfl (by (try simp only [List.map_toArray, List.map_cons, List.map_nil]); first | done | rfl | (simp only [List.length_drop, List.length_take]; rfl)) ?_; (with_reducible refine (spec_l4Has.calls k1 _ _ t1114 a1 false _ ?side1 ?side2 A8.out).mono ?_); (case side1 => repeat (first | exact (Kd.R_reads' HO1116.out).2.2 | (with_reducible refine Kd.C_alloc ?_ _) | (with_reducible refine Kd.C_drewN ?_ _) | (with_reducible refine Kd.C_drew ?_))); (case side2 => exact (Kd.R_reads' HO1116.out).2.1); rintro e w' ⟨rfl, ⟨nd, rfl⟩⟩; refine ⟨_, rfl, ?_⟩))
          go_roundg k1
          case measure => have := HK1.out; omega
          case rel => exact ⟨(x5_1), (wrap64 (x6_1 + 1)), (by first | rfl | (simp; done) | (simp [*]; done)), H', ⟨by have := HK1.out; omega⟩, ⟨by (with_reducible repeat (first | apply Kd.R_alloc | apply Kd.R_drewN | apply Kd.R_drew)); exact Kd.R_mono HO_5.out (fun _ hk => trivial)⟩, ⟨by (with_reducible repeat (first | refine blk_drewN ?_ _ | refine blk_drew ?_ | refine blk_alloc ?_ _)); exact BK1110.out⟩, ⟨by repeat (first | (with_reducible first | exact HB.out | apply below_alloc | apply pw_below_drewN | apply below_drew1 | refine below_set ?_ GE1110.out) | exact HB.out)⟩⟩
      · rw [if_neg c6] at H
        have c6b0 : decide (x6_1 < (l0_4.length : Int)) = false := decide_eq_false c6
        clear c6
        obtain rfl := Option.some.inj H
        have hcz18_0 : wr.cell? ⟨gb1110, 0, none⟩ = some (.string a0_0) := (blk_cell BK1110.out 0).trans rfl
        have hcz18_1 : wr.cell? ⟨gb1110, 1, none⟩ = some (.int .i64 a0_1) := (blk_cell BK1110.out 1).trans rfl
        have hcz18_2 : wr.cell? ⟨gb1110, 2, none⟩ = some (.slice A0_2 l0_2.length c0_2) := (blk_cell BK1110.out 2).trans rfl
        have hcz18_3 : wr.cell? ⟨gb1110, 3, none⟩ = some (.int .i64 a0_3) := (blk_cell BK1110.out 3).trans rfl
        have hcz18_4 : wr.cell? ⟨gb1110, 4, none⟩ = some (.slice A0_4 l0_4.length c0_4) := (blk_cell BK1110.out 4).trans rfl
        have hfz18_0 := blk_frozen BK1110.out 0
        have hfz18_1 := blk_frozen BK1110.out 1
        have hfz18_2 := blk_frozen BK1110.out 2
        have hfz18_3 := blk_frozen BK1110.out 3
        have hfz18_4 := blk_frozen BK1110.out 4
        go_wp2
        go_ret
        exact ⟨_, by first | rfl | (simp [errW_none, errW_some] <;> rfl) | (simp [*, errW_none, errW_some] <;> rfl), by (with_reducible repeat (first | apply Kd.R_alloc | apply Kd.R_drewN | apply Kd.R_drew)); exact HO_5.out, by repeat (first | (with_reducible first | exact HB.out | apply below_alloc | apply pw_below_drewN | apply below_drew1 | refine below_set ?_ GE1110.out) | exact HB.out)⟩

end Go.Proofs.Ytoedcnhgobbnfaa.All

namespace Go.Proofs.Ytoedcnhgobbnfaa.All
open Go.RowKit Go.Proofs.YtoedcnhgobbnfaaW.PrintWords Go.Proofs.YtoedcnhgobbnfaaW.PrintLast Go.Proofs.YtoedcnhgobbnfaaW.PrintMore
attribute [local go_sem] max2_int min2_int max_two min_two max_three min_three max_four min_four   -- for this text's walks alone
set_option linter.unusedVariables false
set_option linter.unusedSimpArgs false

/-! ### impl_PrevBlocks: function 24 -/
mutual
def impl_PrevBlocks.l0 : Nat → Int → List Int → Int → Int → ByteArray → Int → List Int → Int → List (S62) → Option (List Int)
  | 0, _, _, _, _, _, _, _, _, _ => none
  | k + 1, x1, x5, x11, x12, x498000, x498001, x498002, x498003, x498004 => if x12 < x11 then ((impl_NextBlocks.f x498000 x498001 x498002 x498003 x498004 x12).bind fun t498 => (impl_PrevBlocks.l1 k x1 x5 x12 x11 x12 t498 (t498.length : Int) 0 x498000 x498001 x498002 x498003 x498004)) else (some x5)
def impl_PrevBlocks.l1 : Nat → Int → List Int → Int → Int → Int → List Int → Int → Int → ByteArray → Int → List Int → Int → List (S62) → Option (List Int)
  | 0, _, _, _, _, _, _, _, _, _, _, _, _, _ => none
  | k + 1, x1, x5, x6, x11, x12, x17, x18, x19, x498000, x498001, x498002, x498003, x498004 => if x19 < x18 then (if 0 ≤ x19 then (if x19 < (x17.length : Int) then (if (rd x17 x19) = x1 then (if x5.length < 17592186044416 then (impl_PrevBlocks.l1 k x1 (x5 ++ [x6]) x6 x11 x12 x17 x18 (wrap64 (x19 + 1)) x498000 x498001 x498002 x498003 x498004) else (none)) else (impl_PrevBlocks.l1 k x1 x5 x6 x11 x12 x17 x18 (wrap64 (x19 + 1)) x498000 x498001 x498002 x498003 x498004)) else (none)) else (none)) else (impl_PrevBlocks.l0 k x1 x5 x11 (wrap64 (x12 + 1)) x498000 x498001 x498002 x498003 x498004)
end
def impl_PrevBlocks.f (k : Nat) (a0_0 : ByteArray) (a0_1 : Int) (l0_2 : List Int) (a0_3 : Int) (l0_4 : List (S62)) (a1 : Int) : Option (List Int) := impl_PrevBlocks.l0 k a1 ([] : List Int) (l0_4.length : Int) 0 a0_0 a0_1 l0_2 a0_3 l0_4
set_option maxHeartbeats 8000000 in
set_option maxRecDepth 100000 in
theorem impl_PrevBlocks.calls (k : Nat) (a0_0 : ByteArray) (a0_1 : Int) (A0_2 : Option Addr) (c0_2 : Nat) (l0_2 : List Int) (a0_3 : Int) (A0_4 : Option Addr) (c0_4 : Nat) (l0_4 : List (S62)) (a1 : Int) (r : List Int) (w : World) (hr0_2 : Kd.C (Kd.int .i64) w A0_2 l0_2.length l0_2) (hc0_2 : l0_2.length ≤ c0_2) (hr0_4 : Kd.C k62 w A0_4 l0_4.length l0_4) (hc0_4 : l0_4.length ≤ c0_4) (h : impl_PrevBlocks.f k a0_0 a0_1 l0_2 a0_3 l0_4 a1 = some r) :
    Calls Try.prog 24 #[.agg #[.string a0_0, .int .i64 a0_1, .slice A0_2 l0_2.length c0_2, .int .i64 a0_3, .slice A0_4 l0_4.length c0_4], .int .i64 a1] w fun e w' => ∃ v0_ : Value, e = .returned (v0_) ∧ Kd.R (Kd.int .i64) 2 w' w.heap.size (fun _ => True) v0_ r ∧ Below w.heap.size w w' := by
  have hu30 := Try.underlying30
  have HR0_2 := Aside0.mk hr0_2
  have HC0_2 := Aside0.mk hc0_2
  clear hr0_2 hc0_2
  have HR0_4 := Aside0.mk hr0_4
  have HC0_4 := Aside0.mk hc0_4
  clear hr0_4 hc0_4
  have HB := Aside0.mk (Below.refl w.heap.size w)
  have H : (impl_PrevBlocks.l0 k a1 ([] : List Int) (l0_4.length : Int) 0 a0_0 a0_1 l0_2 a0_3 l0_4) = some r := h
  clear h
  have H' := Aside0.mk H
  clear H
  go_enter Try.func24, Try.ntmps24
  go_wp2_with (first | ((with_reducible refine gate_dst (N := 2) rfl ?_); refine box_event ?hg (N := 2) ?hd (cs := #[.string a0_0, .int .i64 a0_1, .slice A0_2 l0_2.length c0_2, .int .i64 a0_3, .slice A0_4 l0_4.length c0_4]) (t := 30) ?hr ?_; (case hd => rfl); (case hg => rfl); (case hr => first | (go_simp; done) | (go_simp; rfl)); intro gb497 hg w3 hbox hb; have n0_ := Aside0.mk (below_step (by repeat (first | (with_reducible first | exact HB.out | apply below_alloc | apply pw_below_drewN | apply below_drew1) | exact HB.out)) hb); have n1_ := Aside0.mk (hbox); have n2_ := Aside0.mk ((by rw [hg]; exact (below_size (by repeat (first | (with_reducible first | exact HB.out | apply below_alloc | apply pw_below_drewN | apply below_drew1) | exact HB.out))) : w.heap.size ≤ gb497)); have n3_ := Aside0.mk ((by rw [hg]; exact (below_size (by repeat (first | (with_reducible first | exact HB.out | apply below_alloc | apply pw_below_drewN | apply below_drew1) | exact HB.out))) : w.heap.size ≤ gb497)); clear HB; have HB := n0_; have BK497 := n1_; have GW497 := n2_; have GE497 := n3_; clear n0_ n1_ n2_ n3_; clear hb hbox hg; have hcz4_0 : w3.cell? ⟨gb497, 0, none⟩ = some (.string a0_0) := (blk_cell BK497.out 0).trans rfl; have hcz4_1 : w3.cell? ⟨gb497, 1, none⟩ = some (.int .i64 a0_1) := (blk_cell BK497.out 1).trans rfl; have hcz4_2 : w3.cell? ⟨gb497, 2, none⟩ = some (.slice A0_2 l0_2.length c0_2) := (blk_cell BK497.out 2).trans rfl; have hcz4_3 : w3.cell? ⟨gb497, 3, none⟩ = some (.int .i64 a0_3) := (blk_cell BK497.out 3).trans rfl; have hcz4_4 : w3.cell? ⟨gb497, 4, none⟩ = some (.slice A0_4 l0_4.length c0_4) := (blk_cell BK497.out 4).trans rfl; have hfz4_0 := blk_frozen BK497.out 0; have hfz4_1 := blk_frozen BK497.out 1; have hfz4_2 := blk_frozen BK497.out 2; have hfz4_3 := blk_frozen BK497.out 3; have hfz4_4 := blk_frozen BK497.out 4))
  go_loopg [5, 12] k (fun kq v5 v12 w' => ∃ (x5_1 : List Int) (x12_1 : Int), v12 = .int .i64 x12_1 ∧ Aside0 (impl_PrevBlocks.l0 kq a1 x5_1 (l0_4.length : Int) x12_1 a0_0 a0_1 l0_2 a0_3 l0_4 = some r) ∧ Aside0 (kq ≤ k) ∧ Aside0 (Kd.R (Kd.int .i64) 2 w' w.heap.size (fun _ => True) v5 x5_1) ∧ Aside0 (w'.heap[gb497]? = some (.cells #[.string a0_0, .int .i64 a0_1, (.slice A0_2 l0_2.length c0_2), .int .i64 a0_3, (.slice A0_4 l0_4.length c0_4)] 30 (0, 0))) ∧ Aside0 (Below w.heap.size w w'))
  case atStart => exact ⟨(([] : List Int)), (0), (by first | rfl | (simp; done) | (simp [*]; done)), H', ⟨Nat.le_refl _⟩, ⟨by first | exact Kd.R_nil _ _ _ _ _ | exact Kd.N_nil _ _ _ _ _ | exact Kd.V_nil _ _ _ _ _ | exact Kd.Q_nil _ _ _ _ _ | exact Kd.S_nil _ _ _ _ _⟩, ⟨by (with_reducible repeat (first | refine blk_drewN ?_ _ | refine blk_drew ?_ | refine blk_alloc ?_ _)); exact BK497.out⟩, ⟨by repeat (first | (with_reducible first | exact HB.out | apply below_alloc | apply pw_below_drewN | apply below_drew1 | refine below_set ?_ GE497.out) | exact HB.out)⟩⟩
  case round =>
    clear H'
    try clear c2
    try clear p2
    try clear hcz4_0
    try clear hcz4_1
    try clear hcz4_2
    try clear hcz4_3
    try clear hcz4_4
    try clear hfz4_0
    try clear hfz4_1
    try clear hfz4_2
    try clear hfz4_3
    try clear hfz4_4
    obtain ⟨x5_1, x12_1, rfl, HA, HK1, HO_5, BK497, HB⟩ := hrel
    cases gk with
    | zero => exact absurd HA.out (by simp [impl_PrevBlocks.l0])
    | succ k1 =>
      have H := HA.out
      clear HA
      simp only [impl_PrevBlocks.l0] at H
      by_cases c5 : x12_1 < (l0_4.length : Int)
      · rw [if_pos c5] at H
        have c5b0 : decide (x12_1 < (l0_4.length : Int)) = true := decide_eq_true c5
        clear c5
        replace H := Option.bind_eq_some_iff.mp H
        obtain ⟨t498, A60, H⟩ := H
        replace H : (impl_PrevBlocks.l1 k1 a1 x5_1 x12_1 (l0_4.length : Int) x12_1 t498 (t498.length : Int) 0 a0_0 a0_1 l0_2 a0_3 l0_4) = some r := H
        have A6 := Aside0.mk A60
        clear A60
        have H' := Aside0.mk H
        clear H
        have hcz7_0 : wr.cell? ⟨gb497, 0, none⟩ = some (.string a0_0) := (blk_cell BK497.out 0).trans rfl
        have hcz7_1 : wr.cell? ⟨gb497, 1, none⟩ = some (.int .i64 a0_1) := (blk_cell BK497.out 1).trans rfl
        have hcz7_2 : wr.cell? ⟨gb497, 2, none⟩ = some (.slice A0_2 l0_2.length c0_2) := (blk_cell BK497.out 2).trans rfl
        have hcz7_3 : wr.cell? ⟨gb497, 3, none⟩ = some (.int .i64 a0_3) := (blk_cell BK497.out 3).trans rfl
        have hcz7_4 : wr.cell? ⟨gb497, 4, none⟩ = some (.slice A0_4 l0_4.length c0_4) := (blk_cell BK497.out 4).trans rfl
        have hfz7_0 := blk_frozen BK497.out 0
        have hfz7_1 := blk_frozen BK497.out 1
        have hfz7_2 := blk_frozen BK497.out 2
        have hfz7_3 := blk_frozen BK497.out 3
        have hfz7_4 := blk_frozen BK497.out 4
        go_wp2_with (first | ((with_reducible refine gate_callee (f := 18) rfl ?_); refine goesL_ (some 17) rfl rfl Try.func18 (by kernel_rfl) rfl #[.agg #[.string a0_0, .int .i64 a0_1, .slice A0_2 l0_2.length c0_2, .int .i64 a0_3, .slice A0_4 l0_4.length c0_4], .int .i64 x12_1] rfl (by (try simp only [List.map_toArray, List.map_cons, List.map_nil]); first | done | rfl | (simp only [List.length_drop, List.length_take]; rfl)) ?_; (with_reducible refine (impl_NextBlocks.calls a0_0 a0_1 _ _ l0_2 a0_3 _ _ l0_4 x12_1 t498 _ ?side1 ?side2 ?side3 ?side4 A6.out).mono ?_); (case side1 => repeat (first | exact (Kd.C_below HR0_2.out HB.out) | (with_reducible refine Kd.C_alloc ?_ _) | (with_reducible refine Kd.C_drewN ?_ _) | (with_reducible refine Kd.C_drew ?_))); (case side2 => exact HC0_2.out); (case side3 => repeat (first | exact (Kd.C_below HR0_4.out HB.out) | (with_reducible refine Kd.C_alloc ?_ _) | (with_reducible refine Kd.C_drewN ?_ _) | (with_reducible refine Kd.C_drew ?_))); (case side4 => exact HC0_4.out); rintro e w8 ⟨v499, rfl, ho0, hb⟩; refine ⟨_, rfl, ?_⟩; have n0_ := Aside0.mk (Kd.R_elder' (by (with_reducible repeat (first | apply Kd.R_alloc | apply Kd.R_drewN | apply Kd.R_drew)); exact HO_5.out) (Kd.R_base ho0) hb); have n1_ := Aside0.mk (Kd.R_lower (Kd.R_new' ho0 (Kd.R_lt (by (with_reducible repeat (first | apply Kd.R_alloc | apply Kd.R_drewN | apply Kd.R_drew)); exact HO_5.out))) (below_size (by repeat (first | (with_reducible first | exact HB.out | apply below_alloc | apply pw_below_drewN | apply below_drew1 | refine below_set ?_ GE497.out) | exact HB.out)))); have n2_ := Aside0.mk (blk_below (g := gb497) (o := .cells #[.string a0_0, .int .i64 a0_1, .slice A0_2 l0_2.length c0_2, .int .i64 a0_3, .slice A0_4 l0_4.length c0_4] 30 (0, 0)) (by (with_reducible repeat (first | refine blk_drewN ?_ _ | refine blk_drew ?_ | refine blk_alloc ?_ _)); exact BK497.out) hb); have n3_ := Aside0.mk (below_step (by repeat (first | (with_reducible first | exact HB.out | apply below_alloc | apply pw_below_drewN | apply below_drew1 | refine below_set ?_ GE497.out) | exact HB.out)) hb); clear HO_5; clear BK497; clear HB; have HO_5 := n0_; have HO500 := n1_; have BK497 := n2_; have HB := n3_; clear n0_ n1_ n2_ n3_; (try clear hb); (try clear hb2); (try clear hk); (try clear hi); (try clear ho0); obtain ⟨Ao9, co9, eo9⟩ := Kd.R_slice HO500.out; subst eo9))
        go_loopg [5, 19] k1 (fun kq v5 v19 w' => ∃ (x5_2 : List Int) (x19_2 : Int), v19 = .int .i64 x19_2 ∧ Aside0 (impl_PrevBlocks.l1 kq a1 x5_2 x12_1 (l0_4.length : Int) x12_1 t498 (t498.length : Int) x19_2 a0_0 a0_1 l0_2 a0_3 l0_4 = some r) ∧ Aside0 (kq ≤ k1) ∧ Aside0 (Kd.R (Kd.int .i64) 2 w' w.heap.size (fun k_ => some k_ ≠ ((.slice Ao9 t498.length co9) : Value).ownBlock) v5 x5_2) ∧ Aside0 (Kd.R (Kd.int .i64) 2 w' w.heap.size (fun k_ => some k_ ≠ (v5 : Value).ownBlock) (.slice Ao9 t498.length co9) t498) ∧ Aside0 (w'.heap[gb497]? = some (.cells #[.string a0_0, .int .i64 a0_1, (.slice A0_2 l0_2.length c0_2), .int .i64 a0_3, (.slice A0_4 l0_4.length c0_4)] 30 (0, 0))) ∧ Aside0 (Below w.heap.size w w'))
        case atStart => exact ⟨(x5_1), (0), (by first | rfl | (simp; done) | (simp [*]; done)), H', ⟨Nat.le_refl _⟩, ⟨by (with_reducible repeat (first | apply Kd.R_alloc | apply Kd.R_drewN | apply Kd.R_drew)); exact Kd.R_mono HO_5.out (fun _ hk => hk.2)⟩, ⟨by (with_reducible repeat (first | apply Kd.R_alloc | apply Kd.R_drewN | apply Kd.R_drew)); exact Kd.R_mono HO500.out (fun _ hk => hk.2)⟩, ⟨by (with_reducible repeat (first | refine blk_drewN ?_ _ | refine blk_drew ?_ | refine blk_alloc ?_ _)); exact BK497.out⟩, ⟨by repeat (first | (with_reducible first | exact HB.out | apply below_alloc | apply pw_below_drewN | apply below_drew1 | refine below_set ?_ GE497.out) | exact HB.out)⟩⟩
        case round =>
          clear H'
          try clear c1
          try clear c2
          try clear p2
          try clear c5
          try clear c5b0
          try clear hcz4_0
          try clear hcz4_1
          try clear hcz4_2
          try clear hcz4_3
          try clear hcz4_4
          try clear hcz7_0
          try clear hcz7_1
          try clear hcz7_2
          try clear hcz7_3
          try clear hcz7_4
          try clear hfz4_0
          try clear hfz4_1
          try clear hfz4_2
          try clear hfz4_3
          try clear hfz4_4
          try clear hfz7_0
          try clear hfz7_1
          try clear hfz7_2
          try clear hfz7_3
          try clear hfz7_4
          try clear p2
          obtain ⟨x5_2, x19_2, rfl, HA, HK2, HO_5, HO_17, BK497, HB⟩ := hrel
          cases gk with
          | zero => exact absurd HA.out (by simp [impl_PrevBlocks.l1])
          | succ k2 =>
            have H := HA.out
            clear HA
            simp only [impl_PrevBlocks.l1] at H
            by_cases c10 : x19_2 < (t498.length : Int)
            · rw [if_pos c10] at H
              have c10b0 : decide (x19_2 < (t498.length : Int)) = true := decide_eq_true c10
              clear c10
              by_cases c11 : 0 ≤ x19_2
              · rw [if_pos c11] at H
                have c11b0 : decide (0 ≤ x19_2) = true := decide_eq_true c11
                clear c11
                by_cases c12 : x19_2 < (t498.length : Int)
                · rw [if_pos c12] at H
                  have c12b0 : decide (x19_2 < (t498.length : Int)) = true := decide_eq_true c12
                  clear c12
                  by_cases c13 : (rd t498 x19_2) = a1
                  · rw [if_pos c13] at H
                    have c13b0 : ((rd t498 x19_2) == a1) = true := beq_iff_eq.mpr c13
                    have c13b1 : ((rd t498 x19_2) != a1) = false := bne_eq_false_iff_eq.mpr c13
                    clear c13
                    by_cases c14 : x5_2.length < 17592186044416
                    · rw [if_pos c14] at H
                      have LMc14 := Aside0.mk c14
                      clear c14
                      obtain ⟨y502, hy502⟩ : ∃ y_ : List Int, y_ = (x5_2 ++ [x12_1]) := ⟨_, rfl⟩
                      replace H : (impl_PrevBlocks.l1 k2 a1 y502 x12_1 (l0_4.length : Int) x12_1 t498 (t498.length : Int) (wrap64 (x19_2 + 1)) a0_0 a0_1 l0_2 a0_3 l0_4) = some r := by first | (rw [hy502]; with_reducible exact H) | (have H2_ := (Option.bind_some _ _).symm.trans H; rw [hy502]; with_reducible exact H2_) | (have H2_ := (Option.bind_some _ _).symm.trans H; with_reducible exact H2_) | with_reducible exact H | (rw [hy502]; exact H) | exact H
                      have Ny502 := Aside0.mk hy502
                      clear hy502
                      have H' := Aside0.mk H
                      clear H
                      have p501 : 0 ≤ (x19_2 : Int) := of_decide_eq_true (by first | (with_reducible assumption) | assumption)
                      have q501 : x19_2 < (t498.length : Int) := of_decide_eq_true (by first | (with_reducible assumption) | assumption)
                      obtain ⟨ad501, e501, hx501_0⟩ := Kd.at_int (Kd.R_reads' HO_17.out).2.2 x19_2 p501 q501
                      cases e501
                      replace p501 := eq_true p501
                      replace q501 := eq_true q501
                      go_wp2_with (first | ((with_reducible refine gate_builtin (b := .append) (xs := #[.tmp 26, .tmp 28]) rfl ?_); at_builtin; refine Kd.R_append (Kd.int .i64) (w0 := w) w.heap.size rfl (.tmp 26) (.tmp 28) 22 2 (.int .i64 0) 8 rfl Try.underlying22 info2 rfl (by decide) (by omega) u5 x5_2 x12_1 [.int .i64 x12_1] (fun k_ => some k_ ≠ (.slice (some ad501) t498.length co9 : Value).ownBlock) (fun _ => False) rfl rfl ?aP (fun _ hk => hk.elim) ?aF ?aO ?aB ?aS ?aL ?_; (case aP => exact rfl); (case aB => exact (by repeat (first | (with_reducible first | exact HB.out | apply below_alloc | apply pw_below_drewN | apply below_drew1 | refine below_set ?_ GE497.out) | exact HB.out))); (case aF => exact (fun k_ hk => Kd.fresh' (Kd.R_lt (by (with_reducible repeat (first | apply Kd.R_alloc | apply Kd.R_drewN | apply Kd.R_drew)); exact HO_17.out)) k_ hk)); (case aO => exact (by (with_reducible repeat (first | apply Kd.R_alloc | apply Kd.R_drewN | apply Kd.R_drew)); exact HO_5.out)); (case aS => exact (below_size (by repeat (first | (with_reducible first | exact HB.out | apply below_alloc | apply pw_below_drewN | apply below_drew1 | refine below_set ?_ GE497.out) | exact HB.out)))); (case aL => have := LMc14.out; omega); intro v503 w15 ho hb hg hat; rw [← Ny502.out] at ho; have n0_ := Aside0.mk (Kd.R_after (ok := (fun _ => True)) (by (with_reducible repeat (first | apply Kd.R_alloc | apply Kd.R_drewN | apply Kd.R_drew)); exact Kd.R_mono HO_17.out (fun _ hk => ⟨trivial, hk⟩)) hg hat); have n1_ := Aside0.mk (blk_grown (g := gb497) (o := .cells #[.string a0_0, .int .i64 a0_1, .slice A0_2 l0_2.length c0_2, .int .i64 a0_3, .slice A0_4 l0_4.length c0_4] 30 (0, 0)) (by (with_reducible repeat (first | refine blk_drewN ?_ _ | refine blk_drew ?_ | refine blk_alloc ?_ _)); exact BK497.out) hg (Kd.R_ne HO_5.out BK497.out (by decide))); have n2_ := Aside0.mk (hb); have n3_ := Aside0.mk (ho); clear HO_17; clear BK497; clear HB; clear HO_5; have HO_17 := n0_; have BK497 := n1_; have HB := n2_; have HO504 := n3_; clear n0_ n1_ n2_ n3_; clear ho hb hg hat))
                      go_roundg k2
                      case measure => have := HK1.out; have := HK2.out; omega
                      case rel => exact ⟨(y502), (wrap64 (x19_2 + 1)), (by first | rfl | (simp; done) | (simp [*]; done)), H', ⟨by have := HK1.out; have := HK2.out; omega⟩, ⟨by (with_reducible repeat (first | apply Kd.R_alloc | apply Kd.R_drewN | apply Kd.R_drew)); exact HO504.out⟩, ⟨by (with_reducible repeat (first | apply Kd.R_alloc | apply Kd.R_drewN | apply Kd.R_drew)); exact Kd.R_mono HO_17.out (fun _ hk => hk.2)⟩, ⟨by (with_reducible repeat (first | refine blk_drewN ?_ _ | refine blk_drew ?_ | refine blk_alloc ?_ _)); exact BK497.out⟩, ⟨by repeat (first | (with_reducible first | exact HB.out | apply below_alloc | apply pw_below_drewN | apply below_drew1 | refine below_set ?_ GE497.out) | exact HB.out)⟩⟩
                    · rw [if_neg c14] at H
                      exact absurd H (by simp)
                  · rw [if_neg c13] at H
                    have c13b0 : ((rd t498 x19_2) == a1) = false := beq_eq_false_iff_ne.mpr c13
                    have c13b1 : ((rd t498 x19_2) != a1) = true := bne_iff_ne.mpr c13
                    have H' := Aside0.mk H
                    clear H
                    have p501 : 0 ≤ (x19_2 : Int) := of_decide_eq_true (by first | (with_reducible assumption) | assumption)
                    have q501 : x19_2 < (t498.length : Int) := of_decide_eq_true (by first | (with_reducible assumption) | assumption)
                    obtain ⟨ad501, e501, hx501_0⟩ := Kd.at_int (Kd.R_reads' HO_17.out).2.2 x19_2 p501 q501
                    cases e501
                    replace p501 := eq_true p501
                    replace q501 := eq_true q501
                    go_wp2
                    go_roundg k2
                    case measure => have := HK1.out; have := HK2.out; omega
                    case rel => exact ⟨(x5_2), (wrap64 (x19_2 + 1)), (by first | rfl | (simp; done) | (simp [*]; done)), H', ⟨by have := HK1.out; have := HK2.out; omega⟩, ⟨by (with_reducible repeat (first | apply Kd.R_alloc | apply Kd.R_drewN | apply Kd.R_drew)); exact HO_5.out⟩, ⟨by (with_reducible repeat (first | apply Kd.R_alloc | apply Kd.R_drewN | apply Kd.R_drew)); exact HO_17.out⟩, ⟨by (with_reducible repeat (first | refine blk_drewN ?_ _ | refine blk_drew ?_ | refine blk_alloc ?_ _)); exact BK497.out⟩, ⟨by repeat (first | (with_reducible first | exact HB.out | apply below_alloc | apply pw_below_drewN | apply below_drew1 | refine below_set ?_ GE497.out) | exact HB.out)⟩⟩
                · rw [if_neg c12] at H
                  exact absurd H (by simp)
              · rw [if_neg c11] at H
                exact absurd H (by simp)
            · rw [if_neg c10] at H
              have c10b0 : decide (x19_2 < (t498.length : Int)) = false := decide_eq_false c10
              clear c10
              have H' := Aside0.mk H
              clear H
              go_wp2
              go_roundg k2
              case measure => have := HK1.out; have := HK2.out; omega
              case rel => exact ⟨(x5_2), (wrap64 (x12_1 + 1)), (by first | rfl | (simp; done) | (simp [*]; done)), H', ⟨by have := HK1.out; have := HK2.out; omega⟩, ⟨by (with_reducible repeat (first | apply Kd.R_alloc | apply Kd.R_drewN | apply Kd.R_drew)); exact Kd.R_mono HO_5.out (fun _ hk => trivial)⟩, ⟨by (with_reducible repeat (first | refine blk_drewN ?_ _ | refine blk_drew ?_ | refine blk_alloc ?_ _)); exact BK497.out⟩, ⟨by repeat (first | (with_reducible first | exact HB.out | apply below_alloc | apply pw_below_drewN | apply below_drew1 | refine below_set ?_ GE497.out) | exact HB.out)⟩⟩
      · rw [if_neg c5] at H
        have c5b0 : decide (x12_1 < (l0_4.length : Int)) = false := decide_eq_false c5
        clear c5
        obtain rfl := Option.some.inj H
        go_wp2
        go_ret
        exact ⟨_, by first | rfl | (simp [errW_none, errW_some] <;> rfl) | (simp [*, errW_none, errW_some] <;> rfl), by (with_reducible repeat (first | apply Kd.R_alloc | apply Kd.R_drewN | apply Kd.R_drew)); exact HO_5.out, by repeat (first | (with_reducible first | exact HB.out | apply below_alloc | apply pw_below_drewN | apply below_drew1 | refine below_set ?_ GE497.out) | exact HB.out)⟩

end Go.Proofs.Ytoedcnhgobbnfaa.All

/- Next and previous blocks: the reference's and the program's lists are one. -/
namespace Go.Proofs.Ytoedcnhgobbnfaa.All
open Go.RowKit Go.Proofs.YtoedcnhgobbnfaaW.PrintWords Go.Proofs.YtoedcnhgobbnfaaW.PrintLast Go.Proofs.YtoedcnhgobbnfaaW.PrintMore
set_option linter.unusedVariables false
set_option linter.unusedSimpArgs false
def gOk (bs : List S62) : Prop := bs.length ≤ 1048576 ∧ ∀ b ∈ bs, bBlock b
def nextOf (bs : List S62) (a : Int) : List Int :=
  if a < 0 then [] else if (bs.length : Int) ≤ a then [] else if (rd_T62 bs a).f0.length = 0 then [] else nextL bs.length (rd_T66 (rd_T62 bs a).f0 (((rd_T62 bs a).f0.length : Int) - 1)).f7
theorem getD_mem {α : Type} {xs : List α} {i : Nat} (h : i < xs.length) (z : α) : xs.getD i z ∈ xs := by rw [getD_eq h]; exact List.getElem_mem h
theorem gOk_at {bs : List S62} (h : gOk bs) {a : Int} (h0 : 0 ≤ a) (h1 : a < (bs.length : Int)) : bBlock (rd_T62 bs a) := h.2 _ (getD_mem (by omega) _)
theorem gOk_last {bs : List S62} (h : gOk bs) {a : Int} (h0 : 0 ≤ a) (h1 : a < (bs.length : Int)) (h2 : (rd_T62 bs a).f0.length ≠ 0) : bInstr (rd_T66 (rd_T62 bs a).f0 (((rd_T62 bs a).f0.length : Int) - 1)) := (gOk_at h h0 h1).2 _ (getD_mem (by omega) _)
theorem nextOf_len {bs : List S62} (h : gOk bs) (a : Int) : (nextOf bs a).length ≤ 1048576 := by
  unfold nextOf
  split
  · simp
  · split
    · simp
    · split
      · simp
      · have h1 := gOk_last h (a := a) (by omega) (by omega) (by assumption)
        have h2 := nextL_len bs.length (rd_T66 (rd_T62 bs a).f0 (((rd_T62 bs a).f0.length : Int) - 1)).f7
        have := h1.2.1
        omega
theorem nextOf_range (bs : List S62) (a : Int) : ∀ x ∈ nextOf bs a, 0 ≤ x ∧ x < (bs.length : Int) := by
  unfold nextOf
  split
  · simp
  · split
    · simp
    · split
      · simp
      · exact nextL_range _ _
theorem nextOf_nodup (bs : List S62) (a : Int) : (nextOf bs a).Nodup := by
  unfold nextOf
  split
  · simp
  · split
    · simp
    · split
      · simp
      · exact nextL_nodup _ _
theorem implNext_f (n : ByteArray) (y : Int) (ps : List Int) (c : Int) (bs : List S62) (a : Int) (h : gOk bs) : impl_NextBlocks.f n y ps c bs a = some (nextOf bs a) := by
  unfold impl_NextBlocks.f nextOf
  by_cases h1 : a < 0
  · rw [if_pos h1, if_pos h1]
  rw [if_neg h1, if_neg h1]
  by_cases h2 : (bs.length : Int) ≤ a
  · rw [if_pos h2, if_pos h2]
  rw [if_neg h2, if_neg h2]
  by_cases h3 : (rd_T62 bs a).f0.length = 0
  · rw [if_pos h3, if_pos h3]
  rw [if_neg h3, if_neg h3]
  have h4 := gOk_last h (a := a) (by omega) (by omega) h3
  have h5 := gOk_at h (a := a) (by omega) (by omega)
  have := h.1
  have := h5.1
  have := h4.2.1
  rw [if_pos ⟨by omega, by omega, by omega⟩]
theorem l4Has_f (l : List Int) (v : Int) (hl : l.length ≤ 9223372036854775806) : Ev (fun k => spec_l4Has.f k l v) (l.contains v) := by
  unfold spec_l4Has.f
  have key : ∀ d i : Nat, i + d = l.length → Ev (fun k => spec_l4Has.l0 k l v (i : Int)) ((l.drop i).contains v) := by
    intro d
    induction d with
    | zero =>
      intro i hi
      obtain rfl : i = l.length := by omega
      refine Ev.succ ?_
      simp only [spec_l4Has.l0]
      rw [List.drop_length]
      exact Ev.neg (by omega) (Ev.some (by simp))
    | succ d ih =>
      intro i hi
      have hlt : i < l.length := by omega
      refine Ev.succ ?_
      simp only [spec_l4Has.l0]
      have e : rd l i = l[i] := by simp [rd, List.getElem?_eq_getElem hlt]
      rw [e, wrap64_nat (by omega), List.drop_eq_getElem_cons hlt, List.contains_cons]
      refine Ev.pos (by omega) (Ev.pos (by omega) ?_)
      by_cases c : l[i] = v
      · exact Ev.pos c (Ev.some (by simp [c]))
      · refine Ev.neg c ?_
        rw [beq_eq_false_iff_ne.2 (Ne.symm c), Bool.false_or]
        exact ih (i + 1) (by omega)
  exact key l.length 0 (by omega)
theorem specNext_f (n : ByteArray) (y : Int) (ps : List Int) (c : Int) (bs : List S62) (a : Int) (h : gOk bs) : Ev (fun k => spec_NextBlocks.f k n y ps c bs a) (nextOf bs a) := by
  unfold spec_NextBlocks.f nextOf
  refine Ev.some_bind ?_
  have done : Ev (fun k => spec_NextBlocks.j0 k a [] true n y ps c bs) [] := by
    refine Ev.succ ?_
    simp only [spec_NextBlocks.j0]
    exact Ev.pos trivial (Ev.now _)
  by_cases h1 : a < 0
  · rw [if_pos h1]
    exact Ev.pos h1 done
  rw [if_neg h1]
  refine Ev.neg h1 ?_
  by_cases h2 : (bs.length : Int) ≤ a
  · rw [if_pos h2]
    exact Ev.pos h2 done
  rw [if_neg h2]
  refine Ev.neg (by omega) (Ev.pos (by omega) (Ev.pos (by omega) ?_))
  by_cases h3 : (rd_T62 bs a).f0.length = 0
  · rw [if_pos h3]
    have e : (((rd_T62 bs a).f0.length : Int) == 0) = true := by rw [h3]; rfl
    rw [e]
    exact done
  rw [if_neg h3]
  have e : (((rd_T62 bs a).f0.length : Int) == 0) = false := by rw [beq_eq_false_iff_ne]; omega
  rw [e]
  have h4 := gOk_last h (a := a) (by omega) (by omega) h3
  have h5 := gOk_at h (a := a) (by omega) (by omega)
  have h6 := h5.1
  have h7 := h4.2.1
  have hb := h.1
  refine Ev.succ ?_
  simp only [spec_NextBlocks.j0]
  rw [wrap64_id (x := ((rd_T62 bs a).f0.length : Int) - 1) (by omega) (by omega)]
  refine Ev.neg (by simp) (Ev.pos (by omega) (Ev.pos (by omega) (Ev.pos (by omega) (Ev.pos (by omega) ?_))))
  generalize rd_T66 (rd_T62 bs a).f0 (((rd_T62 bs a).f0.length : Int) - 1) = x at h4 h7
  have key : ∀ d i : Nat, i + d = x.f7.length → Ev (fun k => spec_NextBlocks.l0 k (nextL bs.length (x.f7.take i)) (i : Int) n y ps c bs x.f0 x.f1 x.f2 x.f3 x.f4 x.f5 x.f6 x.f7 x.f8) (nextL bs.length x.f7) := by
    intro d
    induction d with
    | zero =>
      intro i hi
      obtain rfl : i = x.f7.length := by omega
      refine Ev.succ ?_
      simp only [spec_NextBlocks.l0]
      rw [List.take_length]
      exact Ev.neg (by omega) (Ev.now _)
    | succ d ih =>
      intro i hi
      have hlt : i < x.f7.length := by omega
      have h8 := ih (i + 1) (by omega)
      rw [nextL_take bs.length x.f7 i hlt] at h8
      refine Ev.succ ?_
      simp only [spec_NextBlocks.l0]
      have e1 : rd x.f7 i = x.f7[i] := by simp [rd, List.getElem?_eq_getElem hlt]
      have hlen := nextL_len bs.length (x.f7.take i)
      rw [List.length_take] at hlen
      rw [e1, wrap64_nat (by omega)]
      refine Ev.pos (by omega) (Ev.pos (by omega) ?_)
      unfold stepN at h8
      by_cases c0 : 0 ≤ x.f7[i]
      · by_cases c1 : x.f7[i] < (bs.length : Int)
        · refine Ev.pos c0 (Ev.pos c1 (Ev.bind (l4Has_f _ _ (by omega)) ?_))
          by_cases c2 : (nextL bs.length (x.f7.take i)).contains x.f7[i] = true
          · rw [if_neg (by rw [c2]; simp)] at h8
            exact Ev.pos c2 h8
          · rw [if_pos ⟨c0, c1, by simpa using c2⟩] at h8
            exact Ev.neg c2 (Ev.pos (by omega) h8)
        · rw [if_neg (fun h => c1 h.2.1)] at h8
          exact Ev.pos c0 (Ev.neg c1 h8)
      · rw [if_neg (fun h => c0 h.1)] at h8
        exact Ev.neg c0 h8
  exact key x.f7.length 0 (by omega)
/-- The blocks that go to a block, rising. -/
def prevOf (bs : List S62) (a : Int) : List Int := ((List.range bs.length).filter fun (b : Nat) => (nextOf bs (b : Int)).contains a).map fun (b : Nat) => (b : Int)
def prevTo (bs : List S62) (a : Int) (i : Nat) : List Int := ((List.range i).filter fun (b : Nat) => (nextOf bs (b : Int)).contains a).map fun (b : Nat) => (b : Int)
theorem prevTo_succ (bs : List S62) (a : Int) (i : Nat) : prevTo bs a (i + 1) = prevTo bs a i ++ (if (nextOf bs (i : Int)).contains a = true then [(i : Int)] else []) := by
  unfold prevTo
  rw [List.range_succ, List.filter_append, List.map_append]
  congr 1
  by_cases h : (nextOf bs (i : Int)).contains a = true
  · rw [if_pos h]; simp only [List.filter_cons, h, if_true, List.filter_nil, List.map_cons, List.map_nil]
  · rw [if_neg h]; simp only [List.filter_cons, h, List.filter_nil]; rfl
theorem prevTo_len (bs : List S62) (a : Int) (i : Nat) : (prevTo bs a i).length ≤ i := by
  unfold prevTo
  rw [List.length_map]
  have := List.length_filter_le (fun b : Nat => (nextOf bs (b : Int)).contains a) (List.range i)
  rw [List.length_range] at this
  exact this
theorem specPrev_f (n : ByteArray) (y : Int) (ps : List Int) (c : Int) (bs : List S62) (a : Int) (h : gOk bs) : Ev (fun k => spec_PrevBlocks.f k n y ps c bs a) (prevOf bs a) := by
  unfold spec_PrevBlocks.f
  have hb := h.1
  have key : ∀ d i : Nat, i + d = bs.length → Ev (fun k => spec_PrevBlocks.l0 k a (prevTo bs a i) (i : Int) n y ps c bs) (prevOf bs a) := by
    intro d
    induction d with
    | zero =>
      intro i hi
      obtain rfl : i = bs.length := by omega
      refine Ev.succ ?_
      simp only [spec_PrevBlocks.l0]
      exact Ev.neg (by omega) (Ev.now _)
    | succ d ih =>
      intro i hi
      have h8 := ih (i + 1) (by omega)
      rw [prevTo_succ] at h8
      have hl := prevTo_len bs a i
      have hn := nextOf_len h (i : Int)
      refine Ev.succ ?_
      simp only [spec_PrevBlocks.l0]
      rw [wrap64_nat (by omega)]
      refine Ev.pos (by omega) (Ev.bind (specNext_f n y ps c bs i h) (Ev.bind (l4Has_f _ _ (by omega)) ?_))
      by_cases c2 : (nextOf bs (i : Int)).contains a = true
      · rw [if_pos c2] at h8
        exact Ev.pos c2 (Ev.pos (by omega) h8)
      · rw [if_neg c2, List.append_nil] at h8
        exact Ev.neg c2 h8
  exact key bs.length 0 (by omega)
theorem implPrev_f (n : ByteArray) (y : Int) (ps : List Int) (c : Int) (bs : List S62) (a : Int) (h : gOk bs) : Ev (fun k => impl_PrevBlocks.f k n y ps c bs a) (prevOf bs a) := by
  unfold impl_PrevBlocks.f
  have hb := h.1
  have inner : ∀ (i : Nat) (l : List Int), l.Nodup → l.length ≤ 1048576 → ∀ (r : List Int) (d j : Nat) (acc : List Int), j + d = l.length → acc.length + d ≤ 4194304 → Ev (fun k => impl_PrevBlocks.l0 k a (acc ++ (if (l.drop j).contains a = true then [(i : Int)] else [])) (bs.length : Int) (wrap64 ((i : Int) + 1)) n y ps c bs) r → Ev (fun k => impl_PrevBlocks.l1 k a acc (i : Int) (bs.length : Int) (i : Int) l (l.length : Int) (j : Int) n y ps c bs) r := by
    intro i l hnd hll r d
    induction d with
    | zero =>
      intro j acc hj ha h8
      obtain rfl : j = l.length := by omega
      refine Ev.succ ?_
      simp only [impl_PrevBlocks.l1]
      rw [List.drop_length] at h8
      exact Ev.neg (by omega) (by simpa using h8)
    | succ d ih =>
      intro j acc hj ha h8
      have hlt : j < l.length := by omega
      refine Ev.succ ?_
      simp only [impl_PrevBlocks.l1]
      have e1 : rd l j = l[j] := by simp [rd, List.getElem?_eq_getElem hlt]
      rw [e1, wrap64_nat (show j < 9223372036854775807 by omega)]
      rw [List.drop_eq_getElem_cons hlt, List.contains_cons] at h8
      refine Ev.pos (by omega) (Ev.pos (by omega) (Ev.pos (by omega) ?_))
      by_cases e : l[j] = a
      · refine Ev.pos e (Ev.pos (by omega) (ih (j + 1) _ (by omega) (by simp; omega) ?_))
        have hno : (l.drop (j + 1)).contains a = false := by
          have h9 : (l.drop j).Nodup := hnd.sublist (List.drop_sublist _ _)
          rw [List.drop_eq_getElem_cons hlt, List.nodup_cons, e] at h9
          simpa using h9.1
        rw [hno]
        simpa [e] using h8
      · refine Ev.neg e (ih (j + 1) _ (by omega) (by omega) ?_)
        rw [beq_eq_false_iff_ne.2 (Ne.symm e), Bool.false_or] at h8
        exact h8
  have key : ∀ d i : Nat, i + d = bs.length → Ev (fun k => impl_PrevBlocks.l0 k a (prevTo bs a i) (bs.length : Int) (i : Int) n y ps c bs) (prevOf bs a) := by
    intro d
    induction d with
    | zero =>
      intro i hi
      obtain rfl : i = bs.length := by omega
      refine Ev.succ ?_
      simp only [impl_PrevBlocks.l0]
      exact Ev.neg (by omega) (Ev.now _)
    | succ d ih =>
      intro i hi
      have h8 := ih (i + 1) (by omega)
      rw [prevTo_succ] at h8
      have hl := prevTo_len bs a i
      have hn := nextOf_len h (i : Int)
      refine Ev.succ ?_
      simp only [impl_PrevBlocks.l0]
      refine Ev.pos (by omega) (Ev.eq_bind (implNext_f n y ps c bs i h) (inner i _ (nextOf_nodup bs i) hn _ (nextOf bs i).length 0 _ (by omega) (by omega) ?_))
      rw [wrap64_nat (by omega), List.drop_zero]
      exact h8
  exact key bs.length 0 (by omega)
theorem prevOf_len (bs : List S62) (a : Int) : (prevOf bs a).length ≤ bs.length := prevTo_len bs a bs.length
end Go.Proofs.Ytoedcnhgobbnfaa.All

/- FnExactNextBlocks: the printed law is true of all arguments. -/
namespace Go.Proofs.Ytoedcnhgobbnfaa.Pure
open Go.Proofs.Ytoedcnhgobbnfaa.All
open Go.RowKit Go.Proofs.YtoedcnhgobbnfaaW.PrintWords Go.Proofs.YtoedcnhgobbnfaaW.PrintLast Go.Proofs.YtoedcnhgobbnfaaW.PrintMore
set_option linter.unusedVariables false
set_option linter.unusedSimpArgs false
theorem FnExactNextBlocks (a0_0 : ByteArray) (a0_1 : Int) (l0_2 : List Int) (a0_3 : Int) (l0_4 : List S96) (a1 : Int) (h0 : a0_0.size ≤ 9223372036854775807) (_ : (Lit.int .i64 a0_1).wf = true) (h2 : l0_2.length ≤ 9223372036854775807 ∧ ∀ y ∈ l0_2, (Lit.int .i64 y).wf = true) (_ : (Lit.int .i64 a0_3).wf = true) (h4 : l0_4.length ≤ 9223372036854775807 ∧ ∀ y ∈ l0_4, ok96 y) (_ : (Lit.int .i64 a1).wf = true) :
    ∃ k, laws_FnExactNextBlocks.f k a0_0 a0_1 l0_2 a0_3 l0_4 a1 = some true := by
  refine Ev.rounds ?_
  obtain ⟨r, hr, hc⟩ := szFunc_f a0_0 a0_1 l0_2 a0_3 l0_4 h0 h2.1 (lBlockS_ok h4)
  unfold laws_FnExactNextBlocks.f
  refine Ev.bind hr ?_
  by_cases hneg : r < 0
  · exact Ev.pos hneg (Ev.now _)
  refine Ev.neg hneg ?_
  have hs : a0_0.size + l0_2.length + sBlockS l0_4 ≤ 1048576 := by omega
  have ht := toFunc_f a0_0 a0_1 l0_2 a0_3 l0_4 hs
  have hb := bBlock_of l0_4 (by omega)
  have hc := cnt_of_s l0_4
  have hl : (l0_4.map iBlock).length ≤ 1048576 := by rw [List.length_map]; unfold sBlockS at hs; omega
  have hg : gOk (l0_4.map iBlock) := ⟨hl, hb⟩
  have hu : (nextOf (l0_4.map iBlock) a1).length ≤ 1048576 := nextOf_len hg a1
  have hS := specNext_f a0_0 a0_1 l0_2 a0_3 (l0_4.map iBlock) a1 hg
  have hI := implNext_f a0_0 a0_1 l0_2 a0_3 (l0_4.map iBlock) a1 hg
  generalize nextOf (l0_4.map iBlock) a1 = y at hS hI hu
  have hE := eqInt64S_f y (by omega)
  have hM := markInt64S_f y (by omega)
  have hH := heldInt64S_f y.length (by omega)
  have hF := eqFunc_f a0_0 a0_1 l0_2 a0_3 (l0_4.map iBlock) (by omega) hl hb
  have hK : laws_markFunc.f a0_0 a0_1 l0_2 a0_3 (l0_4.map iBlock) 1 = some ((1 : Int) + (cntL_int64 l0_2 : Nat) + (cntL_Block (l0_4.map iBlock) : Nat)) := by
    have e : cntL_int64 l0_2 = l0_2.length := rfl
    unfold laws_markFunc.f
    rw [if_pos (by omega), if_pos (by omega)]
  refine Ev.bind ht (Ev.bind hS (Ev.bind ht (Ev.eq_bind hI (Ev.bind hE (Ev.pos rfl (Ev.bind ht (Ev.bind hF (Ev.pos rfl (Ev.eq_bind hK (Ev.neg (by omega) (Ev.bind hE ?_)))))))))))
  refine Ev.succ ?_
  simp only [laws_FnExactNextBlocks.j0]
  refine Ev.neg (by simp) (Ev.bind hM (Ev.bind hH (Ev.neg (by omega) (Ev.pos rfl ?_))))
  refine Ev.bind ht (Ev.eq_bind hI (Ev.bind hE (Ev.pos rfl (Ev.bind hH ?_))))
  exact Ev.neg (by omega) (Ev.pos rfl (Ev.now _))
end Go.Proofs.Ytoedcnhgobbnfaa.Pure
