/- Part 3 of the proof of FnExactLiveRegs: functions of the translation with what they return, and plain laws of these. Written by programs of this session over the kit's print, and by hand. -/
import Derived.Test.YthegbhfoleiegaaProg
import Derived.Test.YthegbhfoleiegaaCFnExactLiveRegsWApart
import Derived.Test.YthegbhfoleiegaaCFnExactLiveRegsWArr
import Derived.Test.YthegbhfoleiegaaCFnExactLiveRegsWAt
import Derived.Test.YthegbhfoleiegaaCFnExactLiveRegsWFoot
import Derived.Test.YthegbhfoleiegaaCFnExactLiveRegsWFootNe
import Derived.Test.YthegbhfoleiegaaCFnExactLiveRegsWGuard
import Derived.Test.YthegbhfoleiegaaCFnExactLiveRegsWInv
import Derived.Test.YthegbhfoleiegaaCFnExactLiveRegsWKept
import Derived.Test.YthegbhfoleiegaaCFnExactLiveRegsWLast
import Derived.Test.YthegbhfoleiegaaCFnExactLiveRegsWMore
import Derived.Test.YthegbhfoleiegaaCFnExactLiveRegsWN
import Derived.Test.YthegbhfoleiegaaCFnExactLiveRegsWNEv
import Derived.Test.YthegbhfoleiegaaCFnExactLiveRegsWQPut
import Derived.Test.YthegbhfoleiegaaCFnExactLiveRegsWRepsOne
import Derived.Test.YthegbhfoleiegaaCFnExactLiveRegsWShare
import Derived.Test.YthegbhfoleiegaaCFnExactLiveRegsWTab
import Derived.Test.YthegbhfoleiegaaCFnExactLiveRegsWWords
import Derived.Test.YthegbhfoleiegaaCFnExactLiveRegsWZeros
import Derived.Below
import Derived.Deep.Draws
import Derived.Deep.AppendLies
import Derived.Maps.AppendAt
import Derived.OwnWalk
import Derived.Laws.BytesArg
import Derived.Laws.MakeOwn
import Derived.Laws.OwnMore
import Derived.Deep.OwnRows
import Derived.Tactics
import Derived.Lib.ConvBytes
import Derived.Laws.Slices
import Derived.WalkKit
import Derived.KernelRfl
import Derived.RowKit3
import Derived.Deep.LoopGhost
import Derived.Deep.QuietTactic
import Derived.BigQuiet
import Derived.WideLaws
import Derived.Deep.DeepCutAuto
import Derived.Deep.CutBlock
import Derived.Deep.RegionHeld3
import Derived.Laws.Rows
import Derived.Lib.AppendStr
import Derived.ArgAppend
import Derived.Laws.IdiomCopy
import Derived.OrdersHeld
import Derived.Laws.BitsLemmas
import Derived.RowKit
import Derived.Laws.CopyOwn
import Derived.Maps.OwnSet
import Derived.Maps.OwnOps
import Derived.Maps.RangeWalk
import Derived.Shelf.GgSortFunc.Whole
import Derived.Shelf.GgSortFunc.Tiny
import Derived.Sort.OwnSortedInts
import Derived.Lib.RowBridge
import Derived.Lib.SortBridge
import Derived.Sort.LotA
import Derived.Deep.Slices
import Derived.ChangeArms
import Derived.ProofKit
import Derived.OpenShut
import Derived.ShutString
import Derived.ChangeOld
import Derived.SizedLaws
import Derived.Test.YthegbhfoleiegaaCFnExactLiveRegs1
import Derived.Test.YthegbhfoleiegaaCFnExactLiveRegs2
namespace Go.Proofs.Ythegbhfoleiegaa.All
open Go.RowKit Go.Proofs.YthegbhfoleiegaaW.PrintWords Go.Proofs.YthegbhfoleiegaaW.PrintLast Go.Proofs.YthegbhfoleiegaaW.PrintMore
attribute [local go_sem] max2_int min2_int max_two min_two max_three min_three max_four min_four   -- for this text's walks alone
set_option linter.unusedVariables false
set_option linter.unusedSimpArgs false

mutual
def spec_l18Live.l0 : Nat → Int → List (List Bool) → Int → Int → List Int → List (S85) → Option ((List (List Bool)))
 | 0, _, _, _, _, _, _ => none
 | k + 1, x3, x4, x5, x263000, x263001, x263002 => if x5 < (x263002.length : Int) then (if 0 ≤ x3 then (if (x3 : Int).toNat ≤ 281474976710656 then (if x4.length < 5864062014805 then (spec_l18Live.l0 k x3 (x4 ++ [(List.replicate (x3 : Int).toNat false)]) (wrap64 (x5 + 1)) x263000 x263001 x263002) else (none)) else (none)) else (none)) else (spec_l18Live.l1 k x3 x4 true x263000 x263001 x263002)
def spec_l18Live.l1 : Nat → Int → List (List Bool) → Bool → Int → List Int → List (S85) → Option ((List (List Bool)))
 | 0, _, _, _, _, _, _ => none
 | k + 1, x3, x4, x6, x263000, x263001, x263002 => if x6 = true then (spec_l18Live.l2 k x3 x4 false (wrap64 ((x263002.length : Int) - 1)) x263000 x263001 x263002) else (some x4)
def spec_l18Live.l2 : Nat → Int → List (List Bool) → Bool → Int → Int → List Int → List (S85) → Option ((List (List Bool)))
 | 0, _, _, _, _, _, _, _ => none
 | k + 1, x3, x4, x6, x7, x263000, x263001, x263002 => if x7 ≥ 0 then ((spec_l18Block.f k x263000 x263001 x263002 x4 x7 x3).bind fun t273 => (spec_l18Live.l3 k x3 x4 x6 x7 t273 0 x263000 x263001 x263002)) else (spec_l18Live.l1 k x3 x4 x6 x263000 x263001 x263002)
def spec_l18Live.l3 : Nat → Int → List (List Bool) → Bool → Int → List Bool → Int → Int → List Int → List (S85) → Option ((List (List Bool)))
 | 0, _, _, _, _, _, _, _, _, _ => none
 | k + 1, x3, x4, x6, x7, x8, x9, x263000, x263001, x263002 => if x9 < x3 then (if 0 ≤ x9 then (if x9 < (x8.length : Int) then (if 0 ≤ x7 then (if x7 < (x4.length : Int) then (if x9 < ((rd_L12 x4 x7).length : Int) then (if ((rdOf false x8 x9) != (rdOf false (rd_L12 x4 x7) x9)) = true then (spec_l18Live.l3 k x3 x4 true x7 x8 (wrap64 (x9 + 1)) x263000 x263001 x263002) else (spec_l18Live.l3 k x3 x4 x6 x7 x8 (wrap64 (x9 + 1)) x263000 x263001 x263002)) else (none)) else (none)) else (none)) else (none)) else (none)) else (if 0 ≤ x7 then (if x7 < (x4.length : Int) then (spec_l18Live.l2 k x3 (x4.set (x7 : Int).toNat x8) x6 (wrap64 (x7 - 1)) x263000 x263001 x263002) else (none)) else (none))
end
def spec_l18Live.f (k : Nat) (a0_0 : Int) (l0_1 : List Int) (l0_2 : List (S85)) : Option ((List (List Bool))) := (spec_l18Most.f k a0_0 l0_1 l0_2).bind fun t263 => (spec_l18Live.l0 k t263 (([] : List (List Bool))) 0 a0_0 l0_1 l0_2)
set_option maxHeartbeats 8000000 in
set_option maxRecDepth 100000 in
theorem spec_l18Live.calls (k : Nat) (a0_0 : Int) (A0_1 : Option Addr) (c0_1 : Nat) (l0_1 : List Int) (A0_2 : Option Addr) (c0_2 : Nat) (l0_2 : List (S85)) (r : List (List Bool)) (w : World) (hr0_1 : Kd.C (Kd.int .i64) w A0_1 l0_1.length l0_1) (hc0_1 : l0_1.length ≤ c0_1) (hr0_2 : Kd.C k85 w A0_2 l0_2.length l0_2) (hc0_2 : l0_2.length ≤ c0_2) (h : spec_l18Live.f k a0_0 l0_1 l0_2 = some r) :
 Calls Try.prog 69 #[.agg #[.int .i64 a0_0, .slice A0_1 l0_1.length c0_1, .slice A0_2 l0_2.length c0_2]] w fun e w' => ∃ v0_ : Value, e = .returned (v0_) ∧ Kd.S (Kd.slice 4 Kd.bool) 97 w' w.heap.size (fun _ => True) v0_ r ∧ Below w.heap.size w w' := by
 have hu29 := Try.underlying29
 have HR0_1 := Aside0.mk hr0_1
 have HC0_1 := Aside0.mk hc0_1
 clear hr0_1 hc0_1
 have HR0_2 := Aside0.mk hr0_2
 have HC0_2 := Aside0.mk hc0_2
 clear hr0_2 hc0_2
 have HB := Aside0.mk (Below.refl w.heap.size w)
 have H : ((spec_l18Most.f k a0_0 l0_1 l0_2).bind fun t263 => (spec_l18Live.l0 k t263 (([] : List (List Bool))) 0 a0_0 l0_1 l0_2)) = some r := h
 clear h
 replace H := Option.bind_eq_some_iff.mp H
 obtain ⟨t263, A20, H⟩ := H
 replace H : (spec_l18Live.l0 k t263 (([] : List (List Bool))) 0 a0_0 l0_1 l0_2) = some r := H
 have A2 := Aside0.mk A20
 clear A20
 obtain ⟨y264, hy264⟩ : ∃ y_ : List (List Bool), y_ = (([] : List (List Bool))) := ⟨_, rfl⟩
 replace H : (spec_l18Live.l0 k t263 y264 0 a0_0 l0_1 l0_2) = some r := by first | (rw [hy264]; with_reducible exact H) | (have H2_ := (Option.bind_some _ _).symm.trans H; rw [hy264]; with_reducible exact H2_) | (have H2_ := (Option.bind_some _ _).symm.trans H; with_reducible exact H2_) | with_reducible exact H | (rw [hy264]; exact H) | exact H
 have Ny264 := Aside0.mk hy264
 clear hy264
 have H' := Aside0.mk H
 clear H
 go_enter Try.func69, Try.ntmps69
 go_wp2_with (first | ((with_reducible refine gate_dst (N := 1) rfl ?_); refine box_event ?hg (N := 1) ?hd (cs := #[.int .i64 a0_0, .slice A0_1 l0_1.length c0_1, .slice A0_2 l0_2.length c0_2]) (t := 29) ?hr ?_; (case hd => rfl); (case hg => rfl); (case hr => first | (go_simp; done) | (go_simp; rfl)); intro gb262 hg w3 hbox hb; have n0_ := Aside0.mk (below_step bz hb); have n1_ := Aside0.mk (hbox); have n2_ := Aside0.mk ((by rw [hg]; exact (below_size bz) : w.heap.size ≤ gb262)); have n3_ := Aside0.mk ((by rw [hg]; exact (below_size bz) : w.heap.size ≤ gb262)); clear HB; have HB := n0_; have BK262 := n1_; have GW262 := n2_; have GE262 := n3_; clear n0_ n1_ n2_ n3_; clear hb hbox hg; have hcz4_0 : w3.cell? ⟨gb262, 0, none⟩ = some (.int .i64 a0_0) := (blk_cell BK262.out 0).trans rfl; have hcz4_1 : w3.cell? ⟨gb262, 1, none⟩ = some (.slice A0_1 l0_1.length c0_1) := (blk_cell BK262.out 1).trans rfl; have hcz4_2 : w3.cell? ⟨gb262, 2, none⟩ = some (.slice A0_2 l0_2.length c0_2) := (blk_cell BK262.out 2).trans rfl; have hfz4_0 := blk_frozen BK262.out 0; have hfz4_1 := blk_frozen BK262.out 1; have hfz4_2 := blk_frozen BK262.out 2) | (go_at_call 121; (with_reducible refine (spec_l18Most.calls k a0_0 _ _ l0_1 _ _ l0_2 t263 _ ?side1 ?side2 ?side3 ?side4 A2.out).mono ?_); (case side1 => exact cz HR0_1.out); (case side2 => exact HC0_1.out); (case side3 => exact cz HR0_2.out); (case side4 => exact HC0_2.out); rintro e w5 ⟨rfl, hb⟩; have n0_ := Aside0.mk (blk_below (g := gb262) (o := .cells #[.int .i64 a0_0, .slice A0_1 l0_1.length c0_1, .slice A0_2 l0_2.length c0_2] 29 (0, 0)) kz hb); have n1_ := Aside0.mk (below_step bz hb); clear BK262; clear HB; have BK262 := n0_; have HB := n1_; clear n0_ n1_; (try clear hb); (try clear hb2); (try clear hk); (try clear hi)) | ((with_reducible refine gate_dst (N := 12) rfl ?_); refine Kd.S_lit (Kd.slice 4 Kd.bool) _ 97 ?hg (N := 12) ?hd (xs := ([] : List (List Bool))) (inner := []) (ok := fun _ => True) (okp := fun _ => True) ?hr ?hp (fun _ hk => hk) trivial (Below.refl _ _) (Nat.le_refl _) (by simp) ?_; (case hd => rfl); (case hg => rfl); (case hr => first | (go_simp; done) | (go_simp; rfl)); (case hp => exact (Reps.none _ _)); intro v265 w6 ho7 hb hg_ hnew_; clear hg_ hnew_; (first | rw [← Ny264.out] at ho7 | (simp only [Int.reduceToNat] at ho7; rw [← Ny264.out] at ho7)); have n0_ := Aside0.mk (Kd.S_lower ho7 (below_size bz)); have n1_ := Aside0.mk (blk_below (g := gb262) (o := .cells #[.int .i64 a0_0, .slice A0_1 l0_1.length c0_1, .slice A0_2 l0_2.length c0_2] 29 (0, 0)) kz hb); have n2_ := Aside0.mk (below_step bz hb); clear BK262; clear HB; have HO266 := n0_; have BK262 := n1_; have HB := n2_; clear n0_ n1_ n2_; clear hb ho7))
 repeat (go_quiet (first | ((with_reducible refine gate_dst (N := 1) rfl ?_); refine box_event ?hg (N := 1) ?hd (cs := #[.int .i64 a0_0, .slice A0_1 l0_1.length c0_1, .slice A0_2 l0_2.length c0_2]) (t := 29) ?hr ?_; (case hd => rfl); (case hg => rfl); (case hr => first | (go_simp; done) | (go_simp; rfl)); intro gb262 hg w3 hbox hb; have n0_ := Aside0.mk (below_step bz hb); have n1_ := Aside0.mk (hbox); have n2_ := Aside0.mk ((by rw [hg]; exact (below_size bz) : w.heap.size ≤ gb262)); have n3_ := Aside0.mk ((by rw [hg]; exact (below_size bz) : w.heap.size ≤ gb262)); clear HB; have HB := n0_; have BK262 := n1_; have GW262 := n2_; have GE262 := n3_; clear n0_ n1_ n2_ n3_; clear hb hbox hg; have hcz4_0 : w3.cell? ⟨gb262, 0, none⟩ = some (.int .i64 a0_0) := (blk_cell BK262.out 0).trans rfl; have hcz4_1 : w3.cell? ⟨gb262, 1, none⟩ = some (.slice A0_1 l0_1.length c0_1) := (blk_cell BK262.out 1).trans rfl; have hcz4_2 : w3.cell? ⟨gb262, 2, none⟩ = some (.slice A0_2 l0_2.length c0_2) := (blk_cell BK262.out 2).trans rfl; have hfz4_0 := blk_frozen BK262.out 0; have hfz4_1 := blk_frozen BK262.out 1; have hfz4_2 := blk_frozen BK262.out 2) | (go_at_call 121; (with_reducible refine (spec_l18Most.calls k a0_0 _ _ l0_1 _ _ l0_2 t263 _ ?side1 ?side2 ?side3 ?side4 A2.out).mono ?_); (case side1 => exact cz HR0_1.out); (case side2 => exact HC0_1.out); (case side3 => exact cz HR0_2.out); (case side4 => exact HC0_2.out); rintro e w5 ⟨rfl, hb⟩; have n0_ := Aside0.mk (blk_below (g := gb262) (o := .cells #[.int .i64 a0_0, .slice A0_1 l0_1.length c0_1, .slice A0_2 l0_2.length c0_2] 29 (0, 0)) kz hb); have n1_ := Aside0.mk (below_step bz hb); clear BK262; clear HB; have BK262 := n0_; have HB := n1_; clear n0_ n1_; (try clear hb); (try clear hb2); (try clear hk); (try clear hi)) | ((with_reducible refine gate_dst (N := 12) rfl ?_); refine Kd.S_lit (Kd.slice 4 Kd.bool) _ 97 ?hg (N := 12) ?hd (xs := ([] : List (List Bool))) (inner := []) (ok := fun _ => True) (okp := fun _ => True) ?hr ?hp (fun _ hk => hk) trivial (Below.refl _ _) (Nat.le_refl _) (by simp) ?_; (case hd => rfl); (case hg => rfl); (case hr => first | (go_simp; done) | (go_simp; rfl)); (case hp => exact (Reps.none _ _)); intro v265 w6 ho7 hb hg_ hnew_; clear hg_ hnew_; (first | rw [← Ny264.out] at ho7 | (simp only [Int.reduceToNat] at ho7; rw [← Ny264.out] at ho7)); have n0_ := Aside0.mk (Kd.S_lower ho7 (below_size bz)); have n1_ := Aside0.mk (blk_below (g := gb262) (o := .cells #[.int .i64 a0_0, .slice A0_1 l0_1.length c0_1, .slice A0_2 l0_2.length c0_2] 29 (0, 0)) kz hb); have n2_ := Aside0.mk (below_step bz hb); clear BK262; clear HB; have HO266 := n0_; have BK262 := n1_; have HB := n2_; clear n0_ n1_ n2_; clear hb ho7)); try go_wp2_with (first | ((with_reducible refine gate_dst (N := 1) rfl ?_); refine box_event ?hg (N := 1) ?hd (cs := #[.int .i64 a0_0, .slice A0_1 l0_1.length c0_1, .slice A0_2 l0_2.length c0_2]) (t := 29) ?hr ?_; (case hd => rfl); (case hg => rfl); (case hr => first | (go_simp; done) | (go_simp; rfl)); intro gb262 hg w3 hbox hb; have n0_ := Aside0.mk (below_step bz hb); have n1_ := Aside0.mk (hbox); have n2_ := Aside0.mk ((by rw [hg]; exact (below_size bz) : w.heap.size ≤ gb262)); have n3_ := Aside0.mk ((by rw [hg]; exact (below_size bz) : w.heap.size ≤ gb262)); clear HB; have HB := n0_; have BK262 := n1_; have GW262 := n2_; have GE262 := n3_; clear n0_ n1_ n2_ n3_; clear hb hbox hg; have hcz4_0 : w3.cell? ⟨gb262, 0, none⟩ = some (.int .i64 a0_0) := (blk_cell BK262.out 0).trans rfl; have hcz4_1 : w3.cell? ⟨gb262, 1, none⟩ = some (.slice A0_1 l0_1.length c0_1) := (blk_cell BK262.out 1).trans rfl; have hcz4_2 : w3.cell? ⟨gb262, 2, none⟩ = some (.slice A0_2 l0_2.length c0_2) := (blk_cell BK262.out 2).trans rfl; have hfz4_0 := blk_frozen BK262.out 0; have hfz4_1 := blk_frozen BK262.out 1; have hfz4_2 := blk_frozen BK262.out 2) | (go_at_call 121; (with_reducible refine (spec_l18Most.calls k a0_0 _ _ l0_1 _ _ l0_2 t263 _ ?side1 ?side2 ?side3 ?side4 A2.out).mono ?_); (case side1 => exact cz HR0_1.out); (case side2 => exact HC0_1.out); (case side3 => exact cz HR0_2.out); (case side4 => exact HC0_2.out); rintro e w5 ⟨rfl, hb⟩; have n0_ := Aside0.mk (blk_below (g := gb262) (o := .cells #[.int .i64 a0_0, .slice A0_1 l0_1.length c0_1, .slice A0_2 l0_2.length c0_2] 29 (0, 0)) kz hb); have n1_ := Aside0.mk (below_step bz hb); clear BK262; clear HB; have BK262 := n0_; have HB := n1_; clear n0_ n1_; (try clear hb); (try clear hb2); (try clear hk); (try clear hi)) | ((with_reducible refine gate_dst (N := 12) rfl ?_); refine Kd.S_lit (Kd.slice 4 Kd.bool) _ 97 ?hg (N := 12) ?hd (xs := ([] : List (List Bool))) (inner := []) (ok := fun _ => True) (okp := fun _ => True) ?hr ?hp (fun _ hk => hk) trivial (Below.refl _ _) (Nat.le_refl _) (by simp) ?_; (case hd => rfl); (case hg => rfl); (case hr => first | (go_simp; done) | (go_simp; rfl)); (case hp => exact (Reps.none _ _)); intro v265 w6 ho7 hb hg_ hnew_; clear hg_ hnew_; (first | rw [← Ny264.out] at ho7 | (simp only [Int.reduceToNat] at ho7; rw [← Ny264.out] at ho7)); have n0_ := Aside0.mk (Kd.S_lower ho7 (below_size bz)); have n1_ := Aside0.mk (blk_below (g := gb262) (o := .cells #[.int .i64 a0_0, .slice A0_1 l0_1.length c0_1, .slice A0_2 l0_2.length c0_2] 29 (0, 0)) kz hb); have n2_ := Aside0.mk (below_step bz hb); clear BK262; clear HB; have HO266 := n0_; have BK262 := n1_; have HB := n2_; clear n0_ n1_ n2_; clear hb ho7)))
 go_loopg [4, 5] k (fun kq v4 v5 w' => ∃ (x4_1 : List (List Bool)) (x5_1 : Int), v5 = .int .i64 x5_1 ∧ Aside0 (spec_l18Live.l0 kq t263 x4_1 x5_1 a0_0 l0_1 l0_2 = some r) ∧ Aside0 (kq ≤ k) ∧ Aside0 (Kd.S (Kd.slice 4 Kd.bool) 97 w' w.heap.size (fun _ => True) v4 x4_1) ∧ Aside0 (w'.heap[gb262]? = some (.cells #[.int .i64 a0_0, (.slice A0_1 l0_1.length c0_1), (.slice A0_2 l0_2.length c0_2)] 29 (0, 0))) ∧ Aside0 (Below w.heap.size w w'))
 case atStart => exact ⟨(y264), (0), sz_, H', ⟨Nat.le_refl _⟩, ⟨by (with_reducible repeat (first | apply Kd.S_alloc | apply Kd.S_drewN | apply Kd.S_drew)); exact HO266.out⟩, ⟨ kz⟩, ⟨ bz⟩⟩
 case round =>
  clear H'
  try clear p2
  try clear c6
  try clear hcz4_0
  try clear hcz4_1
  try clear hcz4_2
  try clear hfz4_0
  try clear hfz4_1
  try clear hfz4_2
  obtain ⟨x4_1, x5_1, rfl, HA, HK1, HO_4, BK262, HB⟩ := hrel
  cases gk with
  | zero => exact absurd HA.out (by simp [spec_l18Live.l0])
  | succ k1 =>
   have H := HA.out
   clear HA
   simp only [spec_l18Live.l0] at H
   by_cases c8 : x5_1 < (l0_2.length : Int)
   · rw [if_pos c8] at H
     have c8b0 : decide (x5_1 < (l0_2.length : Int)) = true := decide_eq_true c8
     clear c8
     by_cases c9 : 0 ≤ t263
     · rw [if_pos c9] at H
       have c9b0 := eq_true c9
       have c9b1 : decide (0 ≤ t263) = true := decide_eq_true c9
       clear c9
       by_cases c10 : (t263 : Int).toNat ≤ 281474976710656
       · rw [if_pos c10] at H
         have c10b0 := eq_true c10
         have c10b1 : decide ((t263 : Int).toNat ≤ 281474976710656) = true := decide_eq_true c10
         clear c10
         obtain ⟨y267, hy267⟩ : ∃ y_ : List Bool, y_ = (List.replicate (t263 : Int).toNat false) := ⟨_, rfl⟩
         replace H : (if x4_1.length < 5864062014805 then (spec_l18Live.l0 k1 t263 (x4_1 ++ [y267]) (wrap64 (x5_1 + 1)) a0_0 l0_1 l0_2) else (none)) = some r := by first | (rw [hy267]; with_reducible exact H) | (have H2_ := (Option.bind_some _ _).symm.trans H; rw [hy267]; with_reducible exact H2_) | (have H2_ := (Option.bind_some _ _).symm.trans H; with_reducible exact H2_) | with_reducible exact H | (rw [hy267]; exact H) | exact H
         have Ny267 := Aside0.mk hy267
         clear hy267
         by_cases c11 : x4_1.length < 5864062014805
         · rw [if_pos c11] at H
           have LMc11 := Aside0.mk c11
           clear c11
           obtain ⟨y270, hy270⟩ : ∃ y_ : List (List Bool), y_ = (x4_1 ++ [y267]) := ⟨_, rfl⟩
           replace H : (spec_l18Live.l0 k1 t263 y270 (wrap64 (x5_1 + 1)) a0_0 l0_1 l0_2) = some r := by first | (rw [hy270]; with_reducible exact H) | (have H2_ := (Option.bind_some _ _).symm.trans H; rw [hy270]; with_reducible exact H2_) | (have H2_ := (Option.bind_some _ _).symm.trans H; with_reducible exact H2_) | with_reducible exact H | (rw [hy270]; exact H) | exact H
           have Ny270 := Aside0.mk hy270
           clear hy270
           have H' := Aside0.mk H
           clear H
           have hcz12_0 : wr.cell? ⟨gb262, 0, none⟩ = some (.int .i64 a0_0) := (blk_cell BK262.out 0).trans rfl
           have hcz12_1 : wr.cell? ⟨gb262, 1, none⟩ = some (.slice A0_1 l0_1.length c0_1) := (blk_cell BK262.out 1).trans rfl
           have hcz12_2 : wr.cell? ⟨gb262, 2, none⟩ = some (.slice A0_2 l0_2.length c0_2) := (blk_cell BK262.out 2).trans rfl
           have hfz12_0 := blk_frozen BK262.out 0
           have hfz12_1 := blk_frozen BK262.out 1
           have hfz12_2 := blk_frozen BK262.out 2
           go_wp2_with (first | ((with_reducible refine gate_dst (N := 22) rfl ?_); refine Kd.R_make Kd.bool _ 4 rfl (N := 22) rfl 97 _ _ rfl t263 rfl rfl Try.underlying97 (.bool false) 1 info4 rfl (by decide) (by omega) false (ok := fun _ => True) (okp := fun _ => True) rfl (fun _ hk => hk) trivial (of_decide_eq_true az) (Nat.le_trans (Nat.mul_le_mul_right _ (of_decide_eq_true az : t263.toNat ≤ 281474976710656)) (by omega)) (Below.refl _ _) (Nat.le_refl _) ?_; intro v268 w13 ho14 hb hg_ hnew_; clear hg_ hnew_; (first | rw [← Ny267.out] at ho14 | (simp only [Int.reduceToNat] at ho14; rw [← Ny267.out] at ho14)); have n0_ := Aside0.mk (Kd.S_elder' (rs HO_4.out) (Kd.R_base ho14) hb); have n1_ := Aside0.mk (Kd.R_lower ho14 (below_size bz)); have n2_ := Aside0.mk (blk_below (g := gb262) (o := .cells #[.int .i64 a0_0, .slice A0_1 l0_1.length c0_1, .slice A0_2 l0_2.length c0_2] 29 (0, 0)) kz hb); have n3_ := Aside0.mk (below_step bz hb); clear HO_4; clear BK262; clear HB; have HO_4 := n0_; have HO269 := n1_; have BK262 := n2_; have HB := n3_; clear n0_ n1_ n2_ n3_; clear hb ho14; obtain ⟨Ao16, co16, eo16⟩ := Kd.R_slice HO269.out; subst eo16) | ((with_reducible refine gate_builtin (b := .append) (xs := #[.tmp 20, .tmp 23]) rfl ?_); at_builtin; refine Kd.S_append (Kd.slice 4 Kd.bool) (w0 := w) w.heap.size rfl (.tmp 20) (.tmp 23) 98 97 (.slice none 0 0) 24 rfl Try.underlying98 info97 rfl (by decide) (by omega) u4 x4_1 y267 [.slice Ao16 y267.length co16] (fun _ => True) (fun k_ => some k_ = (.slice Ao16 y267.length co16 : Value).ownBlock) rfl rfl ?aP (fun k_ hk_ => ((Kd.R_mono (ok' := fun k_ => ((fun _ => True)) k_ ∧ some k_ ≠ (u4 : Value).ownBlock) (Kd.R_apart' (HO269.out) (Kd.S_typed HO_4.out) (by decide)) (fun k_ hk => ⟨trivial, hk.2⟩))).1 k_ hk_.symm) ?aF ?aO ?aB ?aS ?aL ?_; (case aP => exact Kd.M_row (Kd.R_mono (Kd.R_tight rfl (Kd.R_mono (ok' := fun k_ => ((fun _ => True)) k_ ∧ some k_ ≠ (u4 : Value).ownBlock) (Kd.R_apart' (HO269.out) (Kd.S_typed HO_4.out) (by decide)) (fun k_ hk => ⟨trivial, hk.2⟩))) (fun _ h_ => h_))); (case aB => exact bz); (case aF => exact (fun _ _ => trivial)); (case aO => exact (by (with_reducible repeat (first | apply Kd.S_alloc | apply Kd.S_drewN | apply Kd.S_drew)); exact Kd.S_mono HO_4.out (fun k_ hk => ⟨trivial, fun e_ => hk.2 e_⟩))); (case aS => exact (below_size bz)); (case aL => have := LMc11.out; omega); intro v271 w15 ho hb hg hat; rw [← Ny270.out] at ho; have n0_ := Aside0.mk (blk_grown (g := gb262) (o := .cells #[.int .i64 a0_0, .slice A0_1 l0_1.length c0_1, .slice A0_2 l0_2.length c0_2] 29 (0, 0)) kz hg (Kd.S_ne HO_4.out BK262.out (by decide))); have n1_ := Aside0.mk (hb); have n2_ := Aside0.mk (ho); clear BK262; clear HB; clear HO_4; clear HO269; have BK262 := n0_; have HB := n1_; have HO272 := n2_; clear n0_ n1_ n2_; clear ho hb hg hat))
           repeat (go_quiet (first | ((with_reducible refine gate_dst (N := 22) rfl ?_); refine Kd.R_make Kd.bool _ 4 rfl (N := 22) rfl 97 _ _ rfl t263 rfl rfl Try.underlying97 (.bool false) 1 info4 rfl (by decide) (by omega) false (ok := fun _ => True) (okp := fun _ => True) rfl (fun _ hk => hk) trivial (of_decide_eq_true az) (Nat.le_trans (Nat.mul_le_mul_right _ (of_decide_eq_true az : t263.toNat ≤ 281474976710656)) (by omega)) (Below.refl _ _) (Nat.le_refl _) ?_; intro v268 w13 ho14 hb hg_ hnew_; clear hg_ hnew_; (first | rw [← Ny267.out] at ho14 | (simp only [Int.reduceToNat] at ho14; rw [← Ny267.out] at ho14)); have n0_ := Aside0.mk (Kd.S_elder' (rs HO_4.out) (Kd.R_base ho14) hb); have n1_ := Aside0.mk (Kd.R_lower ho14 (below_size bz)); have n2_ := Aside0.mk (blk_below (g := gb262) (o := .cells #[.int .i64 a0_0, .slice A0_1 l0_1.length c0_1, .slice A0_2 l0_2.length c0_2] 29 (0, 0)) kz hb); have n3_ := Aside0.mk (below_step bz hb); clear HO_4; clear BK262; clear HB; have HO_4 := n0_; have HO269 := n1_; have BK262 := n2_; have HB := n3_; clear n0_ n1_ n2_ n3_; clear hb ho14; obtain ⟨Ao16, co16, eo16⟩ := Kd.R_slice HO269.out; subst eo16) | ((with_reducible refine gate_builtin (b := .append) (xs := #[.tmp 20, .tmp 23]) rfl ?_); at_builtin; refine Kd.S_append (Kd.slice 4 Kd.bool) (w0 := w) w.heap.size rfl (.tmp 20) (.tmp 23) 98 97 (.slice none 0 0) 24 rfl Try.underlying98 info97 rfl (by decide) (by omega) u4 x4_1 y267 [.slice Ao16 y267.length co16] (fun _ => True) (fun k_ => some k_ = (.slice Ao16 y267.length co16 : Value).ownBlock) rfl rfl ?aP (fun k_ hk_ => ((Kd.R_mono (ok' := fun k_ => ((fun _ => True)) k_ ∧ some k_ ≠ (u4 : Value).ownBlock) (Kd.R_apart' (HO269.out) (Kd.S_typed HO_4.out) (by decide)) (fun k_ hk => ⟨trivial, hk.2⟩))).1 k_ hk_.symm) ?aF ?aO ?aB ?aS ?aL ?_; (case aP => exact Kd.M_row (Kd.R_mono (Kd.R_tight rfl (Kd.R_mono (ok' := fun k_ => ((fun _ => True)) k_ ∧ some k_ ≠ (u4 : Value).ownBlock) (Kd.R_apart' (HO269.out) (Kd.S_typed HO_4.out) (by decide)) (fun k_ hk => ⟨trivial, hk.2⟩))) (fun _ h_ => h_))); (case aB => exact bz); (case aF => exact (fun _ _ => trivial)); (case aO => exact (by (with_reducible repeat (first | apply Kd.S_alloc | apply Kd.S_drewN | apply Kd.S_drew)); exact Kd.S_mono HO_4.out (fun k_ hk => ⟨trivial, fun e_ => hk.2 e_⟩))); (case aS => exact (below_size bz)); (case aL => have := LMc11.out; omega); intro v271 w15 ho hb hg hat; rw [← Ny270.out] at ho; have n0_ := Aside0.mk (blk_grown (g := gb262) (o := .cells #[.int .i64 a0_0, .slice A0_1 l0_1.length c0_1, .slice A0_2 l0_2.length c0_2] 29 (0, 0)) kz hg (Kd.S_ne HO_4.out BK262.out (by decide))); have n1_ := Aside0.mk (hb); have n2_ := Aside0.mk (ho); clear BK262; clear HB; clear HO_4; clear HO269; have BK262 := n0_; have HB := n1_; have HO272 := n2_; clear n0_ n1_ n2_; clear ho hb hg hat)); try go_wp2_with (first | ((with_reducible refine gate_dst (N := 22) rfl ?_); refine Kd.R_make Kd.bool _ 4 rfl (N := 22) rfl 97 _ _ rfl t263 rfl rfl Try.underlying97 (.bool false) 1 info4 rfl (by decide) (by omega) false (ok := fun _ => True) (okp := fun _ => True) rfl (fun _ hk => hk) trivial (of_decide_eq_true az) (Nat.le_trans (Nat.mul_le_mul_right _ (of_decide_eq_true az : t263.toNat ≤ 281474976710656)) (by omega)) (Below.refl _ _) (Nat.le_refl _) ?_; intro v268 w13 ho14 hb hg_ hnew_; clear hg_ hnew_; (first | rw [← Ny267.out] at ho14 | (simp only [Int.reduceToNat] at ho14; rw [← Ny267.out] at ho14)); have n0_ := Aside0.mk (Kd.S_elder' (rs HO_4.out) (Kd.R_base ho14) hb); have n1_ := Aside0.mk (Kd.R_lower ho14 (below_size bz)); have n2_ := Aside0.mk (blk_below (g := gb262) (o := .cells #[.int .i64 a0_0, .slice A0_1 l0_1.length c0_1, .slice A0_2 l0_2.length c0_2] 29 (0, 0)) kz hb); have n3_ := Aside0.mk (below_step bz hb); clear HO_4; clear BK262; clear HB; have HO_4 := n0_; have HO269 := n1_; have BK262 := n2_; have HB := n3_; clear n0_ n1_ n2_ n3_; clear hb ho14; obtain ⟨Ao16, co16, eo16⟩ := Kd.R_slice HO269.out; subst eo16) | ((with_reducible refine gate_builtin (b := .append) (xs := #[.tmp 20, .tmp 23]) rfl ?_); at_builtin; refine Kd.S_append (Kd.slice 4 Kd.bool) (w0 := w) w.heap.size rfl (.tmp 20) (.tmp 23) 98 97 (.slice none 0 0) 24 rfl Try.underlying98 info97 rfl (by decide) (by omega) u4 x4_1 y267 [.slice Ao16 y267.length co16] (fun _ => True) (fun k_ => some k_ = (.slice Ao16 y267.length co16 : Value).ownBlock) rfl rfl ?aP (fun k_ hk_ => ((Kd.R_mono (ok' := fun k_ => ((fun _ => True)) k_ ∧ some k_ ≠ (u4 : Value).ownBlock) (Kd.R_apart' (HO269.out) (Kd.S_typed HO_4.out) (by decide)) (fun k_ hk => ⟨trivial, hk.2⟩))).1 k_ hk_.symm) ?aF ?aO ?aB ?aS ?aL ?_; (case aP => exact Kd.M_row (Kd.R_mono (Kd.R_tight rfl (Kd.R_mono (ok' := fun k_ => ((fun _ => True)) k_ ∧ some k_ ≠ (u4 : Value).ownBlock) (Kd.R_apart' (HO269.out) (Kd.S_typed HO_4.out) (by decide)) (fun k_ hk => ⟨trivial, hk.2⟩))) (fun _ h_ => h_))); (case aB => exact bz); (case aF => exact (fun _ _ => trivial)); (case aO => exact (by (with_reducible repeat (first | apply Kd.S_alloc | apply Kd.S_drewN | apply Kd.S_drew)); exact Kd.S_mono HO_4.out (fun k_ hk => ⟨trivial, fun e_ => hk.2 e_⟩))); (case aS => exact (below_size bz)); (case aL => have := LMc11.out; omega); intro v271 w15 ho hb hg hat; rw [← Ny270.out] at ho; have n0_ := Aside0.mk (blk_grown (g := gb262) (o := .cells #[.int .i64 a0_0, .slice A0_1 l0_1.length c0_1, .slice A0_2 l0_2.length c0_2] 29 (0, 0)) kz hg (Kd.S_ne HO_4.out BK262.out (by decide))); have n1_ := Aside0.mk (hb); have n2_ := Aside0.mk (ho); clear BK262; clear HB; clear HO_4; clear HO269; have BK262 := n0_; have HB := n1_; have HO272 := n2_; clear n0_ n1_ n2_; clear ho hb hg hat)))
           go_roundg k1
           case measure => have := HK1.out; omega
           case rel => exact ⟨(y270), (wrap64 (x5_1 + 1)), sz_, H', ⟨by have := HK1.out; omega⟩, ⟨by (with_reducible repeat (first | apply Kd.S_alloc | apply Kd.S_drewN | apply Kd.S_drew)); exact HO272.out⟩, ⟨ kz⟩, ⟨ bz⟩⟩
         · rw [if_neg c11] at H
           exact absurd H (by simp)
       · rw [if_neg c10] at H
         exact absurd H (by simp)
     · rw [if_neg c9] at H
       exact absurd H (by simp)
   · rw [if_neg c8] at H
     have c8b0 : decide (x5_1 < (l0_2.length : Int)) = false := decide_eq_false c8
     clear c8
     have H' := Aside0.mk H
     clear H
     have hcz17_0 : wr.cell? ⟨gb262, 0, none⟩ = some (.int .i64 a0_0) := (blk_cell BK262.out 0).trans rfl
     have hcz17_1 : wr.cell? ⟨gb262, 1, none⟩ = some (.slice A0_1 l0_1.length c0_1) := (blk_cell BK262.out 1).trans rfl
     have hcz17_2 : wr.cell? ⟨gb262, 2, none⟩ = some (.slice A0_2 l0_2.length c0_2) := (blk_cell BK262.out 2).trans rfl
     have hfz17_0 := blk_frozen BK262.out 0
     have hfz17_1 := blk_frozen BK262.out 1
     have hfz17_2 := blk_frozen BK262.out 2
     go_wp2
     repeat (go_quiet (fail); try go_wp2)
     go_loopg [6] k1 (fun kq v6 w' => ∃ (x4_2 : List (List Bool)) (x6_2 : Bool), v6 = .bool x6_2 ∧ Aside0 (spec_l18Live.l1 kq t263 x4_2 x6_2 a0_0 l0_1 l0_2 = some r) ∧ Aside0 (kq ≤ k1) ∧ Aside0 (Kd.S (Kd.slice 4 Kd.bool) 97 w' w.heap.size (fun _ => True) u4 x4_2) ∧ Aside0 (w'.heap[gb262]? = some (.cells #[.int .i64 a0_0, (.slice A0_1 l0_1.length c0_1), (.slice A0_2 l0_2.length c0_2)] 29 (0, 0))) ∧ Aside0 (Below w.heap.size w w'))
     case atStart => exact ⟨(x4_1), (true), sz_, H', ⟨Nat.le_refl _⟩, ⟨by (with_reducible repeat (first | apply Kd.S_alloc | apply Kd.S_drewN | apply Kd.S_drew)); exact HO_4.out⟩, ⟨ kz⟩, ⟨ bz⟩⟩
     case round =>
      clear H'
      try clear c1
      try clear p2
      try clear c6
      try clear p6
      try clear c8
      try clear c8b0
      try clear c9
      try clear c9b0
      try clear c9b1
      try clear c10
      try clear c10b0
      try clear c10b1
      try clear c11
      try clear hcz12_0
      try clear hcz12_1
      try clear hcz12_2
      try clear hcz17_0
      try clear hcz17_1
      try clear hcz17_2
      try clear hcz4_0
      try clear hcz4_1
      try clear hcz4_2
      try clear hfz12_0
      try clear hfz12_1
      try clear hfz12_2
      try clear hfz17_0
      try clear hfz17_1
      try clear hfz17_2
      try clear hfz4_0
      try clear hfz4_1
      try clear hfz4_2
      try clear p2
      obtain ⟨x4_2, x6_2, rfl, HA, HK2, HO_4, BK262, HB⟩ := hrel
      cases gk with
      | zero => exact absurd HA.out (by simp [spec_l18Live.l1])
      | succ k2 =>
       have H := HA.out
       clear HA
       simp only [spec_l18Live.l1] at H
       by_cases c18 : x6_2 = true
       · subst c18
         have H1 : (spec_l18Live.l2 k2 t263 x4_2 false (wrap64 ((l0_2.length : Int) - 1)) a0_0 l0_1 l0_2) = some r := by rw [if_pos rfl] at H; exact H
         clear H
         have H := H1
         clear H1
         have H' := Aside0.mk H
         clear H
         have hcz19_0 : wr.cell? ⟨gb262, 0, none⟩ = some (.int .i64 a0_0) := (blk_cell BK262.out 0).trans rfl
         have hcz19_1 : wr.cell? ⟨gb262, 1, none⟩ = some (.slice A0_1 l0_1.length c0_1) := (blk_cell BK262.out 1).trans rfl
         have hcz19_2 : wr.cell? ⟨gb262, 2, none⟩ = some (.slice A0_2 l0_2.length c0_2) := (blk_cell BK262.out 2).trans rfl
         have hfz19_0 := blk_frozen BK262.out 0
         have hfz19_1 := blk_frozen BK262.out 1
         have hfz19_2 := blk_frozen BK262.out 2
         go_wp2
         repeat (go_quiet (fail); try go_wp2)
         go_loopg [6, 7] k2 (fun kq v6 v7 w' => ∃ (x4_3 : List (List Bool)) (x6_3 : Bool) (x7_3 : Int), v6 = .bool x6_3 ∧ v7 = .int .i64 x7_3 ∧ Aside0 (spec_l18Live.l2 kq t263 x4_3 x6_3 x7_3 a0_0 l0_1 l0_2 = some r) ∧ Aside0 (kq ≤ k2) ∧ Aside0 (Kd.S (Kd.slice 4 Kd.bool) 97 w' w.heap.size (fun _ => True) u4 x4_3) ∧ Aside0 (w'.heap[gb262]? = some (.cells #[.int .i64 a0_0, (.slice A0_1 l0_1.length c0_1), (.slice A0_2 l0_2.length c0_2)] 29 (0, 0))) ∧ Aside0 (Below w.heap.size w w'))
         case atStart => exact ⟨(x4_2), (false), (wrap64 ((l0_2.length : Int) - 1)), sz_, sz_, H', ⟨Nat.le_refl _⟩, ⟨by (with_reducible repeat (first | apply Kd.S_alloc | apply Kd.S_drewN | apply Kd.S_drew)); exact HO_4.out⟩, ⟨ kz⟩, ⟨ bz⟩⟩
         case round =>
          clear H'
          try clear c1
          try clear p2
          try clear c6
          try clear p6
          try clear c8
          try clear c8b0
          try clear c9
          try clear c9b0
          try clear c9b1
          try clear c10
          try clear c10b0
          try clear c10b1
          try clear c11
          try clear c18
          try clear hcz12_0
          try clear hcz12_1
          try clear hcz12_2
          try clear hcz17_0
          try clear hcz17_1
          try clear hcz17_2
          try clear hcz19_0
          try clear hcz19_1
          try clear hcz19_2
          try clear hcz4_0
          try clear hcz4_1
          try clear hcz4_2
          try clear hfz12_0
          try clear hfz12_1
          try clear hfz12_2
          try clear hfz17_0
          try clear hfz17_1
          try clear hfz17_2
          try clear hfz19_0
          try clear hfz19_1
          try clear hfz19_2
          try clear hfz4_0
          try clear hfz4_1
          try clear hfz4_2
          try clear p2
          try clear p6
          obtain ⟨x4_3, x6_3, x7_3, rfl, rfl, HA, HK3, HO_4, BK262, HB⟩ := hrel
          cases gk with
          | zero => exact absurd HA.out (by simp [spec_l18Live.l2])
          | succ k3 =>
           have H := HA.out
           clear HA
           simp only [spec_l18Live.l2] at H
           by_cases c20 : x7_3 ≥ 0
           · rw [if_pos c20] at H
             have c20b0 : decide (0 ≤ x7_3) = true := decide_eq_true c20
             clear c20
             replace H := Option.bind_eq_some_iff.mp H
             obtain ⟨t273, A210, H⟩ := H
             replace H : (spec_l18Live.l3 k3 t263 x4_3 x6_3 x7_3 t273 0 a0_0 l0_1 l0_2) = some r := H
             have A21 := Aside0.mk A210
             clear A210
             have H' := Aside0.mk H
             clear H
             have hcz22_0 : wr.cell? ⟨gb262, 0, none⟩ = some (.int .i64 a0_0) := (blk_cell BK262.out 0).trans rfl
             have hcz22_1 : wr.cell? ⟨gb262, 1, none⟩ = some (.slice A0_1 l0_1.length c0_1) := (blk_cell BK262.out 1).trans rfl
             have hcz22_2 : wr.cell? ⟨gb262, 2, none⟩ = some (.slice A0_2 l0_2.length c0_2) := (blk_cell BK262.out 2).trans rfl
             have hfz22_0 := blk_frozen BK262.out 0
             have hfz22_1 := blk_frozen BK262.out 1
             have hfz22_2 := blk_frozen BK262.out 2
             obtain ⟨Ao23, co23, eo23⟩ := Kd.S_slice HO_4.out
             subst eo23
             go_wp2_with (first | (go_at_call 122; (with_reducible refine (spec_l18Block.calls k3 a0_0 _ _ l0_1 _ _ l0_2 _ _ x4_3 x7_3 t263 t273 _ ?side1 ?side2 ?side3 ?side4 ?side5 ?side6 A21.out).mono ?_); (case side1 => exact cz HR0_1.out); (case side2 => exact HC0_1.out); (case side3 => exact cz HR0_2.out); (case side4 => exact HC0_2.out); (case side5 => repeat (first | exact (Kd.S_reads' HO_4.out).2.2 | (with_reducible refine Kd.C_alloc ?_ _) | (with_reducible refine Kd.C_drewN ?_ _) | (with_reducible refine Kd.C_drew ?_))); (case side6 => exact (Kd.S_reads' HO_4.out).2.1); rintro e w24 ⟨v274, rfl, ho0, hb⟩; have n0_ := Aside0.mk (Kd.S_elder' (rs HO_4.out) (Kd.R_base ho0) hb); have n1_ := Aside0.mk (Kd.R_lower ho0 (below_size bz)); have n2_ := Aside0.mk (blk_below (g := gb262) (o := .cells #[.int .i64 a0_0, .slice A0_1 l0_1.length c0_1, .slice A0_2 l0_2.length c0_2] 29 (0, 0)) kz hb); have n3_ := Aside0.mk (below_step bz hb); clear HO_4; clear BK262; clear HB; have HO_4 := n0_; have HO275 := n1_; have BK262 := n2_; have HB := n3_; clear n0_ n1_ n2_ n3_; (try clear hb); (try clear hb2); (try clear hk); (try clear hi); (try clear ho0)))
             repeat (go_quiet (first | (go_at_call 122; (with_reducible refine (spec_l18Block.calls k3 a0_0 _ _ l0_1 _ _ l0_2 _ _ x4_3 x7_3 t263 t273 _ ?side1 ?side2 ?side3 ?side4 ?side5 ?side6 A21.out).mono ?_); (case side1 => exact cz HR0_1.out); (case side2 => exact HC0_1.out); (case side3 => exact cz HR0_2.out); (case side4 => exact HC0_2.out); (case side5 => repeat (first | exact (Kd.S_reads' HO_4.out).2.2 | (with_reducible refine Kd.C_alloc ?_ _) | (with_reducible refine Kd.C_drewN ?_ _) | (with_reducible refine Kd.C_drew ?_))); (case side6 => exact (Kd.S_reads' HO_4.out).2.1); rintro e w24 ⟨v274, rfl, ho0, hb⟩; have n0_ := Aside0.mk (Kd.S_elder' (rs HO_4.out) (Kd.R_base ho0) hb); have n1_ := Aside0.mk (Kd.R_lower ho0 (below_size bz)); have n2_ := Aside0.mk (blk_below (g := gb262) (o := .cells #[.int .i64 a0_0, .slice A0_1 l0_1.length c0_1, .slice A0_2 l0_2.length c0_2] 29 (0, 0)) kz hb); have n3_ := Aside0.mk (below_step bz hb); clear HO_4; clear BK262; clear HB; have HO_4 := n0_; have HO275 := n1_; have BK262 := n2_; have HB := n3_; clear n0_ n1_ n2_ n3_; (try clear hb); (try clear hb2); (try clear hk); (try clear hi); (try clear ho0))); try go_wp2_with (first | (go_at_call 122; (with_reducible refine (spec_l18Block.calls k3 a0_0 _ _ l0_1 _ _ l0_2 _ _ x4_3 x7_3 t263 t273 _ ?side1 ?side2 ?side3 ?side4 ?side5 ?side6 A21.out).mono ?_); (case side1 => exact cz HR0_1.out); (case side2 => exact HC0_1.out); (case side3 => exact cz HR0_2.out); (case side4 => exact HC0_2.out); (case side5 => repeat (first | exact (Kd.S_reads' HO_4.out).2.2 | (with_reducible refine Kd.C_alloc ?_ _) | (with_reducible refine Kd.C_drewN ?_ _) | (with_reducible refine Kd.C_drew ?_))); (case side6 => exact (Kd.S_reads' HO_4.out).2.1); rintro e w24 ⟨v274, rfl, ho0, hb⟩; have n0_ := Aside0.mk (Kd.S_elder' (rs HO_4.out) (Kd.R_base ho0) hb); have n1_ := Aside0.mk (Kd.R_lower ho0 (below_size bz)); have n2_ := Aside0.mk (blk_below (g := gb262) (o := .cells #[.int .i64 a0_0, .slice A0_1 l0_1.length c0_1, .slice A0_2 l0_2.length c0_2] 29 (0, 0)) kz hb); have n3_ := Aside0.mk (below_step bz hb); clear HO_4; clear BK262; clear HB; have HO_4 := n0_; have HO275 := n1_; have BK262 := n2_; have HB := n3_; clear n0_ n1_ n2_ n3_; (try clear hb); (try clear hb2); (try clear hk); (try clear hi); (try clear ho0))))
             go_loopg [6, 9] k3 (fun kq v6 v9 w' => ∃ (x6_4 : Bool) (x9_4 : Int), v6 = .bool x6_4 ∧ v9 = .int .i64 x9_4 ∧ Aside0 (spec_l18Live.l3 kq t263 x4_3 x6_4 x7_3 t273 x9_4 a0_0 l0_1 l0_2 = some r) ∧ Aside0 (kq ≤ k3) ∧ Aside0 (Kd.S (Kd.slice 4 Kd.bool) 97 w' w.heap.size (fun k_ => some k_ ≠ (v274 : Value).ownBlock) (.slice Ao23 x4_3.length co23) x4_3) ∧ Aside0 (Kd.R Kd.bool 4 w' w.heap.size (fun _ => True) v274 t273) ∧ Aside0 (w'.heap[gb262]? = some (.cells #[.int .i64 a0_0, (.slice A0_1 l0_1.length c0_1), (.slice A0_2 l0_2.length c0_2)] 29 (0, 0))) ∧ Aside0 (Below w.heap.size w w'))
             case atStart => exact ⟨(x6_3), (0), sz_, sz_, H', ⟨Nat.le_refl _⟩, ⟨by (with_reducible repeat (first | apply Kd.S_alloc | apply Kd.S_drewN | apply Kd.S_drew)); exact Kd.S_mono HO_4.out (fun _ hk => hk.2)⟩, ⟨by (with_reducible repeat (first | apply Kd.R_alloc | apply Kd.R_drewN | apply Kd.R_drew)); exact HO275.out⟩, ⟨ kz⟩, ⟨ bz⟩⟩
             case round =>
              clear H'
              try clear c1
              try clear c2
              try clear p2
              try clear c6
              try clear p6
              try clear c8
              try clear c8b0
              try clear c9
              try clear c9b0
              try clear c9b1
              try clear c10
              try clear c10b0
              try clear c10b1
              try clear c11
              try clear c18
              try clear c20
              try clear c20b0
              try clear hcz12_0
              try clear hcz12_1
              try clear hcz12_2
              try clear hcz17_0
              try clear hcz17_1
              try clear hcz17_2
              try clear hcz19_0
              try clear hcz19_1
              try clear hcz19_2
              try clear hcz22_0
              try clear hcz22_1
              try clear hcz22_2
              try clear hcz4_0
              try clear hcz4_1
              try clear hcz4_2
              try clear hfz12_0
              try clear hfz12_1
              try clear hfz12_2
              try clear hfz17_0
              try clear hfz17_1
              try clear hfz17_2
              try clear hfz19_0
              try clear hfz19_1
              try clear hfz19_2
              try clear hfz22_0
              try clear hfz22_1
              try clear hfz22_2
              try clear hfz4_0
              try clear hfz4_1
              try clear hfz4_2
              try clear p2
              try clear p6
              obtain ⟨x6_4, x9_4, rfl, rfl, HA, HK4, HO_4, HO_8, BK262, HB⟩ := hrel
              cases gk with
              | zero => exact absurd HA.out (by simp [spec_l18Live.l3])
              | succ k4 =>
               have H := HA.out
               clear HA
               simp only [spec_l18Live.l3] at H
               by_cases c25 : x9_4 < t263
               · rw [if_pos c25] at H
                 have c25b0 : decide (x9_4 < t263) = true := decide_eq_true c25
                 clear c25
                 by_cases c26 : 0 ≤ x9_4
                 · rw [if_pos c26] at H
                   have c26b0 : decide (0 ≤ x9_4) = true := decide_eq_true c26
                   clear c26
                   by_cases c27 : x9_4 < (t273.length : Int)
                   · rw [if_pos c27] at H
                     have c27b0 : decide (x9_4 < (t273.length : Int)) = true := decide_eq_true c27
                     clear c27
                     by_cases c28 : 0 ≤ x7_3
                     · rw [if_pos c28] at H
                       have c28b0 : decide (0 ≤ x7_3) = true := decide_eq_true c28
                       clear c28
                       by_cases c29 : x7_3 < (x4_3.length : Int)
                       · rw [if_pos c29] at H
                         have c29b0 : decide (x7_3 < (x4_3.length : Int)) = true := decide_eq_true c29
                         clear c29
                         by_cases c30 : x9_4 < ((rd_L12 x4_3 x7_3).length : Int)
                         · rw [if_pos c30] at H
                           have c30b0 : decide (x9_4 < ((rd_L12 x4_3 x7_3).length : Int)) = true := decide_eq_true c30
                           clear c30
                           by_cases c31 : ((rdOf false t273 x9_4) != (rdOf false (rd_L12 x4_3 x7_3) x9_4)) = true
                           · rw [if_pos c31] at H
                             have c31b0 : ((rdOf false t273 x9_4) != (rdOf false (rd_L12 x4_3 x7_3) x9_4)) = true := c31
                             (try (have c31b1 : decide ((rdOf false t273 x9_4) = (rdOf false (rd_L12 x4_3 x7_3) x9_4)) = false := by simpa using c31))
                             (try (have c31b2 : ((rdOf false t273 x9_4) == (rdOf false (rd_L12 x4_3 x7_3) x9_4)) = false := by simpa using c31))
                             (try (have c31b3 : ¬ ((rdOf false t273 x9_4) = (rdOf false (rd_L12 x4_3 x7_3) x9_4)) := by simpa using c31))
                             clear c31
                             have H' := Aside0.mk H
                             clear H
                             obtain ⟨Ao32, co32, eo32⟩ := Kd.R_slice HO_8.out
                             subst eo32
                             have p276 : 0 ≤ (x9_4 : Int) := of_decide_eq_true az
                             have q276 : x9_4 < (t273.length : Int) := of_decide_eq_true az
                             obtain ⟨ad276, e276, hx276_0⟩ := Kd.at_bool (Kd.R_reads' HO_8.out).2.2 x9_4 p276 q276
                             cases e276
                             replace p276 := eq_true p276
                             replace q276 := eq_true q276
                             have p277 : 0 ≤ (x7_3 : Int) := of_decide_eq_true az
                             have q277 : x7_3 < (x4_3.length : Int) := of_decide_eq_true az
                             obtain ⟨ad277, A277_0, c277_0, e277, hx277_0, hl277_0, hi277_0⟩ := at_L12 (Kd.S_reads' HO_4.out).2.2 x7_3 p277 q277
                             cases e277
                             obtain ⟨ce277, hce277, hMe277, hcc277⟩ := Kd.S_get HO_4.out [] x7_3 p277 (by first | exact q277 | exact of_decide_eq_true az | (have e_ := (Kd.S_reads' HO_4.out).1; omega))
                             obtain ⟨ve277_0, rfl, ge277_0⟩ := hMe277
                             have hv277_0 := hcc277 0 _ rfl
                             rw [Nat.add_zero, show ((Kd.slice 4 Kd.bool)).sz = 1 from rfl, Nat.mul_one] at hv277_0
                             replace hv277_0 := Option.some.inj (hv277_0.symm.trans hx277_0)
                             rw [hv277_0] at ge277_0
                             have HL277_0 := Aside0.mk (show Kd.R Kd.bool 4 _ _ _ _ (rd_L12 x4_3 x7_3) from ge277_0)
                             clear hv277_0 ge277_0
                             clear hcc277 hce277
                             have HR277_0 := Aside0.mk hi277_0
                             have HC277_0 := Aside0.mk hl277_0
                             clear hi277_0 hl277_0
                             replace p277 := eq_true p277
                             replace q277 := eq_true q277
                             have p278 : 0 ≤ (x9_4 : Int) := of_decide_eq_true az
                             have q278 : x9_4 < ((rd_L12 x4_3 x7_3).length : Int) := of_decide_eq_true az
                             obtain ⟨ad278, e278, hx278_0⟩ := Kd.at_bool (by repeat (first | (with_reducible exact HR277_0.out) | (with_reducible refine Kd.C_alloc ?_ _) | (with_reducible refine Kd.C_drewN ?_ _) | (with_reducible refine Kd.C_drew ?_) | exact HR277_0.out)) x9_4 p278 q278
                             cases e278
                             replace p278 := eq_true p278
                             replace q278 := eq_true q278
                             go_wp2
                             repeat (go_quiet (fail); try go_wp2)
                             go_roundg k4
                             case measure => have := HK1.out; have := HK2.out; have := HK3.out; have := HK4.out; omega
                             case rel => exact ⟨(true), (wrap64 (x9_4 + 1)), sz_, sz_, H', ⟨by have := HK1.out; have := HK2.out; have := HK3.out; have := HK4.out; omega⟩, ⟨by (with_reducible repeat (first | apply Kd.S_alloc | apply Kd.S_drewN | apply Kd.S_drew)); exact HO_4.out⟩, ⟨by (with_reducible repeat (first | apply Kd.R_alloc | apply Kd.R_drewN | apply Kd.R_drew)); exact HO_8.out⟩, ⟨ kz⟩, ⟨ bz⟩⟩
                           · rw [if_neg c31] at H
                             have c31b0 : ((rdOf false t273 x9_4) != (rdOf false (rd_L12 x4_3 x7_3) x9_4)) = false := by simpa using c31
                             (try (have c31b1 : decide ((rdOf false t273 x9_4) = (rdOf false (rd_L12 x4_3 x7_3) x9_4)) = true := by simpa using c31))
                             (try (have c31b2 : ((rdOf false t273 x9_4) == (rdOf false (rd_L12 x4_3 x7_3) x9_4)) = true := by simpa using c31))
                             clear c31
                             have H' := Aside0.mk H
                             clear H
                             obtain ⟨Ao33, co33, eo33⟩ := Kd.R_slice HO_8.out
                             subst eo33
                             have p276 : 0 ≤ (x9_4 : Int) := of_decide_eq_true az
                             have q276 : x9_4 < (t273.length : Int) := of_decide_eq_true az
                             obtain ⟨ad276, e276, hx276_0⟩ := Kd.at_bool (Kd.R_reads' HO_8.out).2.2 x9_4 p276 q276
                             cases e276
                             replace p276 := eq_true p276
                             replace q276 := eq_true q276
                             have p277 : 0 ≤ (x7_3 : Int) := of_decide_eq_true az
                             have q277 : x7_3 < (x4_3.length : Int) := of_decide_eq_true az
                             obtain ⟨ad277, A277_0, c277_0, e277, hx277_0, hl277_0, hi277_0⟩ := at_L12 (Kd.S_reads' HO_4.out).2.2 x7_3 p277 q277
                             cases e277
                             obtain ⟨ce277, hce277, hMe277, hcc277⟩ := Kd.S_get HO_4.out [] x7_3 p277 (by first | exact q277 | exact of_decide_eq_true az | (have e_ := (Kd.S_reads' HO_4.out).1; omega))
                             obtain ⟨ve277_0, rfl, ge277_0⟩ := hMe277
                             have hv277_0 := hcc277 0 _ rfl
                             rw [Nat.add_zero, show ((Kd.slice 4 Kd.bool)).sz = 1 from rfl, Nat.mul_one] at hv277_0
                             replace hv277_0 := Option.some.inj (hv277_0.symm.trans hx277_0)
                             rw [hv277_0] at ge277_0
                             have HL277_0 := Aside0.mk (show Kd.R Kd.bool 4 _ _ _ _ (rd_L12 x4_3 x7_3) from ge277_0)
                             clear hv277_0 ge277_0
                             clear hcc277 hce277
                             have HR277_0 := Aside0.mk hi277_0
                             have HC277_0 := Aside0.mk hl277_0
                             clear hi277_0 hl277_0
                             replace p277 := eq_true p277
                             replace q277 := eq_true q277
                             have p278 : 0 ≤ (x9_4 : Int) := of_decide_eq_true az
                             have q278 : x9_4 < ((rd_L12 x4_3 x7_3).length : Int) := of_decide_eq_true az
                             obtain ⟨ad278, e278, hx278_0⟩ := Kd.at_bool (by repeat (first | (with_reducible exact HR277_0.out) | (with_reducible refine Kd.C_alloc ?_ _) | (with_reducible refine Kd.C_drewN ?_ _) | (with_reducible refine Kd.C_drew ?_) | exact HR277_0.out)) x9_4 p278 q278
                             cases e278
                             replace p278 := eq_true p278
                             replace q278 := eq_true q278
                             go_wp2
                             repeat (go_quiet (fail); try go_wp2)
                             go_roundg k4
                             case measure => have := HK1.out; have := HK2.out; have := HK3.out; have := HK4.out; omega
                             case rel => exact ⟨(x6_4), (wrap64 (x9_4 + 1)), sz_, sz_, H', ⟨by have := HK1.out; have := HK2.out; have := HK3.out; have := HK4.out; omega⟩, ⟨by (with_reducible repeat (first | apply Kd.S_alloc | apply Kd.S_drewN | apply Kd.S_drew)); exact HO_4.out⟩, ⟨by (with_reducible repeat (first | apply Kd.R_alloc | apply Kd.R_drewN | apply Kd.R_drew)); exact HO_8.out⟩, ⟨ kz⟩, ⟨ bz⟩⟩
                         · rw [if_neg c30] at H
                           exact absurd H (by simp)
                       · rw [if_neg c29] at H
                         exact absurd H (by simp)
                     · rw [if_neg c28] at H
                       exact absurd H (by simp)
                   · rw [if_neg c27] at H
                     exact absurd H (by simp)
                 · rw [if_neg c26] at H
                   exact absurd H (by simp)
               · rw [if_neg c25] at H
                 have c25b0 : decide (x9_4 < t263) = false := decide_eq_false c25
                 clear c25
                 by_cases c34 : 0 ≤ x7_3
                 · rw [if_pos c34] at H
                   have c34b0 : decide (0 ≤ x7_3) = true := decide_eq_true c34
                   clear c34
                   by_cases c35 : x7_3 < (x4_3.length : Int)
                   · rw [if_pos c35] at H
                     have c35b0 : decide (x7_3 < (x4_3.length : Int)) = true := decide_eq_true c35
                     clear c35
                     obtain ⟨y279, hy279⟩ : ∃ y_ : List (List Bool), y_ = (x4_3.set (x7_3 : Int).toNat t273) := ⟨_, rfl⟩
                     replace H : (spec_l18Live.l2 k4 t263 y279 x6_4 (wrap64 (x7_3 - 1)) a0_0 l0_1 l0_2) = some r := by first | (rw [hy279]; with_reducible exact H) | (have H2_ := (Option.bind_some _ _).symm.trans H; rw [hy279]; with_reducible exact H2_) | (have H2_ := (Option.bind_some _ _).symm.trans H; with_reducible exact H2_) | with_reducible exact H | (rw [hy279]; exact H) | exact H
                     have Ny279 := Aside0.mk hy279
                     clear hy279
                     have H' := Aside0.mk H
                     clear H
                     have p36 : 0 ≤ (x7_3 : Int) := of_decide_eq_true az
                     have q36 : (x7_3 : Int) < ((x4_3.length : Int) : Int) := of_decide_eq_true az
                     obtain ⟨go36, co36, eo36, gb36, gl36, cl36, HG36⟩ := Kd.S_form HO_4.out (by omega)
                     (first | cases eo36 | (injection eo36 with ea_ en_ ec_; (first | subst ea_ | (injection ea_ with ea_; subst ea_)); subst ec_; clear en_))
                     have GB36 := Aside0.mk gb36
                     have GG36 := Aside0.mk HG36
                     clear gb36 gl36 HG36
                     obtain ⟨_, ce36, hcl36, hM36, hcc36, hfr36, _, _⟩ := Kd.S_elem HO_4.out [] (x7_3 : Int) p36 q36
                     obtain ⟨ve36_0, rfl, ge36_0⟩ := hM36
                     have hx36_0 := hcc36 0 _ rfl
                     have hf36_0 := hfr36 0
                     (try simp only [show ((Kd.slice 4 Kd.bool)).sz = 1 from rfl, Nat.mul_one, Nat.add_zero] at hx36_0)
                     (try simp only [show ((Kd.slice 4 Kd.bool)).sz = 1 from rfl, Nat.mul_one, Nat.add_zero] at hf36_0)
                     clear hcl36 hcc36 hfr36
                     (try clear hM36)
                     replace p36 := eq_true p36
                     replace q36 := eq_true q36
                     have HX37 := Aside0.mk (show Kd.S (Kd.slice 4 Kd.bool) 97 wr w.heap.size (fun k_ => ((fun _ => True)) k_ ∧ ¬ ((fun k_ => some k_ = (v274 : Value).ownBlock)) k_) (.slice (some ⟨go36, 0, none⟩) x4_3.length co23) x4_3 from (by (with_reducible repeat (first | apply Kd.S_alloc | apply Kd.S_drewN | apply Kd.S_drew)); exact Kd.S_mono HO_4.out (fun k_ hk => ⟨trivial, fun e_ => hk e_⟩)))
                     obtain ⟨oki37, ce37, hcl37, hM37, hcc37, hfr37, hoki37, hH37⟩ := Kd.S_elem HX37.out [] (x7_3 : Int) (of_decide_eq_true az) (by have h_ : (x7_3 : Int) < ((x4_3.length : Int) : Int) := of_decide_eq_true az; first | exact h_ | (have e_ := (Kd.S_reads' HO_4.out).1; omega) | simpa using h_)
                     obtain ⟨ve37_0, rfl, ge37_0⟩ := hM37
                     have HP37 := Kd.S_seg hH37 (of_decide_eq_true az) (by have h_ : (x7_3 : Int) < ((x4_3.length : Int) : Int) := of_decide_eq_true az; first | exact h_ | (have e_ := (Kd.S_reads' HO_4.out).1; omega) | simpa using h_) (seg := [v274]) (j := 0) (show 1 ≤ 1 from by decide) (x' := t273) (Kd.M_row (Kd.R_mono (Kd.R_tight rfl (Kd.R_mono (ok' := fun k_ => ((fun _ => True)) k_ ∧ k_ ≠ go36) (Kd.R_apart' (HO_8.out) (Kd.S_typed HO_4.out) (by decide)) (fun k_ hk => ⟨trivial, fun e_ => (hk.2) (by rw [e_]; rfl)⟩))) (fun _ h_ => Or.inr (h_)))) (fun _ hk => hk) (fun k_ hk_ => ((Kd.R_mono (ok' := fun k_ => ((fun _ => True)) k_ ∧ k_ ≠ go36) (Kd.R_apart' (HO_8.out) (Kd.S_typed HO_4.out) (by decide)) (fun k_ hk => ⟨trivial, fun e_ => (hk.2) (by rw [e_]; rfl)⟩))).1 k_ hk_.symm)
                     have hx37_0 := hcc37 0 _ rfl
                     (try simp only [show ((Kd.slice 4 Kd.bool)).sz = 1 from rfl, Nat.mul_one, Nat.add_zero] at hx37_0)
                     have hf37_0 := hfr37 0
                     (try simp only [show ((Kd.slice 4 Kd.bool)).sz = 1 from rfl, Nat.mul_one, Nat.add_zero] at hf37_0)
                     clear hcl37 hcc37 hfr37 hoki37 hH37
                     (try clear hM37)
                     (try simp only [show ((Kd.slice 4 Kd.bool)).sz = 1 from rfl, Nat.mul_one, Nat.add_zero] at HP37)
                     go_wp2_with (first | ((with_reducible refine gate_store (t := 97) (p := 59) rfl ?_); (try (rw [drewN_self wr]; generalize hq_ : World.drewN wr _ = wr; have n0_ := Aside0.mk (Kd.S_at hq_ HO_4.out); have n1_ := Aside0.mk (blk_at hq_ BK262.out); have n2_ := Aside0.mk (below_at hq_ HB.out); clear hq_ HO_4 BK262 HB; have HO_4 := n0_; have BK262 := n1_; have HB := n2_; clear n0_ n1_ n2_; (try (have HX37 := Aside0.mk (show Kd.S (Kd.slice 4 Kd.bool) 97 wr w.heap.size (fun k_ => ((fun _ => True)) k_ ∧ ¬ ((fun k_ => some k_ = (v274 : Value).ownBlock)) k_) (.slice (some ⟨go36, 0, none⟩) x4_3.length co23) x4_3 from (by (with_reducible repeat (first | apply Kd.S_alloc | apply Kd.S_drewN | apply Kd.S_drew)); exact Kd.S_mono HO_4.out (fun k_ hk => ⟨trivial, fun e_ => hk e_⟩))))); (try (obtain ⟨oki37, ce37, hcl37, hM37, hcc37, hfr37, hoki37, hH37⟩ := Kd.S_elem HX37.out [] (x7_3 : Int) (of_decide_eq_true az) (by have h_ : (x7_3 : Int) < ((x4_3.length : Int) : Int) := of_decide_eq_true az; first | exact h_ | (have e_ := (Kd.S_reads' HO_4.out).1; omega) | simpa using h_))); (try (obtain ⟨ve37_0, rfl, ge37_0⟩ := hM37)); (try (have HP37 := Kd.S_seg hH37 (of_decide_eq_true az) (by have h_ : (x7_3 : Int) < ((x4_3.length : Int) : Int) := of_decide_eq_true az; first | exact h_ | (have e_ := (Kd.S_reads' HO_4.out).1; omega) | simpa using h_) (seg := [v274]) (j := 0) (show 1 ≤ 1 from by decide) (x' := t273) (Kd.M_row (Kd.R_mono (Kd.R_tight rfl (Kd.R_mono (ok' := fun k_ => ((fun _ => True)) k_ ∧ k_ ≠ go36) (Kd.R_apart' (HO_8.out) (Kd.S_typed HO_4.out) (by decide)) (fun k_ hk => ⟨trivial, fun e_ => (hk.2) (by rw [e_]; rfl)⟩))) (fun _ h_ => Or.inr (h_)))) (fun _ hk => hk) (fun k_ hk_ => ((Kd.R_mono (ok' := fun k_ => ((fun _ => True)) k_ ∧ k_ ≠ go36) (Kd.R_apart' (HO_8.out) (Kd.S_typed HO_4.out) (by decide)) (fun k_ hk => ⟨trivial, fun e_ => (hk.2) (by rw [e_]; rfl)⟩))).1 k_ hk_.symm))); (try (have hx37_0 := hcc37 0 _ rfl)); (try (try simp only [show ((Kd.slice 4 Kd.bool)).sz = 1 from rfl, Nat.mul_one, Nat.add_zero] at hx37_0)); (try (have hf37_0 := hfr37 0)); (try (try simp only [show ((Kd.slice 4 Kd.bool)).sz = 1 from rfl, Nat.mul_one, Nat.add_zero] at hf37_0)); (try (clear hcl37 hcc37 hfr37 hM37 hoki37 hH37)); (try (try simp only [show ((Kd.slice 4 Kd.bool)).sz = 1 from rfl, Nat.mul_one, Nat.add_zero] at HP37)))); (try have st37_0 := fun (a_ : Addr) (m_ : Mode) (W_ : World) => run_store Try.prog W_ a_ v274 m_ (Kd.R_val HO_8.out).2); refine store_event (t := 97) (p := 59) (v := ?vo_w38) (w1 := (wr.setCell ⟨go36, (x7_3 : Int).toNat, none⟩ (v274))) ?hg ?ho ?hn ?hr ?_; (case ho => rfl); (case hg => rfl); (case hn => rfl); (case hr => first | (go_simp; done) | (go_simp; rfl) | (obtain ⟨Av_, cv_, ev_⟩ := Kd.R_slice HO_8.out; (try clear st37_0); (try clear st43_0); subst ev_; first | (go_simp; done) | (go_simp; rfl))); intro w38 hw; have hg : wr.grownBy w38 (some go36) := (by rw [hw]; exact HP37.2); have hp_ : Kd.S (Kd.slice 4 Kd.bool) 97 w38 w.heap.size (fun _ => True) (.slice (some ⟨go36, 0, none⟩) x4_3.length co23) y279 := (by rw [hw, Ny279.out]; exact HP37.1); clear HP37; (try clear st37_0); have n0_ := Aside0.mk (hp_); have n1_ := Aside0.mk (blk_grown (g := gb262) (o := .cells #[.int .i64 a0_0, .slice A0_1 l0_1.length c0_1, .slice A0_2 l0_2.length c0_2] 29 (0, 0)) kz hg (Kd.S_ne HO_4.out BK262.out (by decide))); have n2_ := Aside0.mk ((by rw [hw]; exact below_set (HB.out) GB36.out : Below w.heap.size w w38)); clear HO_4; clear BK262; clear HB; clear HO_8; have HO_4 := n0_; have BK262 := n1_; have HB := n2_; clear n0_ n1_ n2_; clear hg hw hp_))
                     repeat (go_quiet (first | ((with_reducible refine gate_store (t := 97) (p := 59) rfl ?_); (try (rw [drewN_self wr]; generalize hq_ : World.drewN wr _ = wr; have n0_ := Aside0.mk (Kd.S_at hq_ HO_4.out); have n1_ := Aside0.mk (blk_at hq_ BK262.out); have n2_ := Aside0.mk (below_at hq_ HB.out); clear hq_ HO_4 BK262 HB; have HO_4 := n0_; have BK262 := n1_; have HB := n2_; clear n0_ n1_ n2_; (try (have HX37 := Aside0.mk (show Kd.S (Kd.slice 4 Kd.bool) 97 wr w.heap.size (fun k_ => ((fun _ => True)) k_ ∧ ¬ ((fun k_ => some k_ = (v274 : Value).ownBlock)) k_) (.slice (some ⟨go36, 0, none⟩) x4_3.length co23) x4_3 from (by (with_reducible repeat (first | apply Kd.S_alloc | apply Kd.S_drewN | apply Kd.S_drew)); exact Kd.S_mono HO_4.out (fun k_ hk => ⟨trivial, fun e_ => hk e_⟩))))); (try (obtain ⟨oki37, ce37, hcl37, hM37, hcc37, hfr37, hoki37, hH37⟩ := Kd.S_elem HX37.out [] (x7_3 : Int) (of_decide_eq_true az) (by have h_ : (x7_3 : Int) < ((x4_3.length : Int) : Int) := of_decide_eq_true az; first | exact h_ | (have e_ := (Kd.S_reads' HO_4.out).1; omega) | simpa using h_))); (try (obtain ⟨ve37_0, rfl, ge37_0⟩ := hM37)); (try (have HP37 := Kd.S_seg hH37 (of_decide_eq_true az) (by have h_ : (x7_3 : Int) < ((x4_3.length : Int) : Int) := of_decide_eq_true az; first | exact h_ | (have e_ := (Kd.S_reads' HO_4.out).1; omega) | simpa using h_) (seg := [v274]) (j := 0) (show 1 ≤ 1 from by decide) (x' := t273) (Kd.M_row (Kd.R_mono (Kd.R_tight rfl (Kd.R_mono (ok' := fun k_ => ((fun _ => True)) k_ ∧ k_ ≠ go36) (Kd.R_apart' (HO_8.out) (Kd.S_typed HO_4.out) (by decide)) (fun k_ hk => ⟨trivial, fun e_ => (hk.2) (by rw [e_]; rfl)⟩))) (fun _ h_ => Or.inr (h_)))) (fun _ hk => hk) (fun k_ hk_ => ((Kd.R_mono (ok' := fun k_ => ((fun _ => True)) k_ ∧ k_ ≠ go36) (Kd.R_apart' (HO_8.out) (Kd.S_typed HO_4.out) (by decide)) (fun k_ hk => ⟨trivial, fun e_ => (hk.2) (by rw [e_]; rfl)⟩))).1 k_ hk_.symm))); (try (have hx37_0 := hcc37 0 _ rfl)); (try (try simp only [show ((Kd.slice 4 Kd.bool)).sz = 1 from rfl, Nat.mul_one, Nat.add_zero] at hx37_0)); (try (have hf37_0 := hfr37 0)); (try (try simp only [show ((Kd.slice 4 Kd.bool)).sz = 1 from rfl, Nat.mul_one, Nat.add_zero] at hf37_0)); (try (clear hcl37 hcc37 hfr37 hM37 hoki37 hH37)); (try (try simp only [show ((Kd.slice 4 Kd.bool)).sz = 1 from rfl, Nat.mul_one, Nat.add_zero] at HP37)))); (try have st37_0 := fun (a_ : Addr) (m_ : Mode) (W_ : World) => run_store Try.prog W_ a_ v274 m_ (Kd.R_val HO_8.out).2); refine store_event (t := 97) (p := 59) (v := ?vo_w38) (w1 := (wr.setCell ⟨go36, (x7_3 : Int).toNat, none⟩ (v274))) ?hg ?ho ?hn ?hr ?_; (case ho => rfl); (case hg => rfl); (case hn => rfl); (case hr => first | (go_simp; done) | (go_simp; rfl) | (obtain ⟨Av_, cv_, ev_⟩ := Kd.R_slice HO_8.out; (try clear st37_0); (try clear st43_0); subst ev_; first | (go_simp; done) | (go_simp; rfl))); intro w38 hw; have hg : wr.grownBy w38 (some go36) := (by rw [hw]; exact HP37.2); have hp_ : Kd.S (Kd.slice 4 Kd.bool) 97 w38 w.heap.size (fun _ => True) (.slice (some ⟨go36, 0, none⟩) x4_3.length co23) y279 := (by rw [hw, Ny279.out]; exact HP37.1); clear HP37; (try clear st37_0); have n0_ := Aside0.mk (hp_); have n1_ := Aside0.mk (blk_grown (g := gb262) (o := .cells #[.int .i64 a0_0, .slice A0_1 l0_1.length c0_1, .slice A0_2 l0_2.length c0_2] 29 (0, 0)) kz hg (Kd.S_ne HO_4.out BK262.out (by decide))); have n2_ := Aside0.mk ((by rw [hw]; exact below_set (HB.out) GB36.out : Below w.heap.size w w38)); clear HO_4; clear BK262; clear HB; clear HO_8; have HO_4 := n0_; have BK262 := n1_; have HB := n2_; clear n0_ n1_ n2_; clear hg hw hp_)); try go_wp2_with (first | ((with_reducible refine gate_store (t := 97) (p := 59) rfl ?_); (try (rw [drewN_self wr]; generalize hq_ : World.drewN wr _ = wr; have n0_ := Aside0.mk (Kd.S_at hq_ HO_4.out); have n1_ := Aside0.mk (blk_at hq_ BK262.out); have n2_ := Aside0.mk (below_at hq_ HB.out); clear hq_ HO_4 BK262 HB; have HO_4 := n0_; have BK262 := n1_; have HB := n2_; clear n0_ n1_ n2_; (try (have HX37 := Aside0.mk (show Kd.S (Kd.slice 4 Kd.bool) 97 wr w.heap.size (fun k_ => ((fun _ => True)) k_ ∧ ¬ ((fun k_ => some k_ = (v274 : Value).ownBlock)) k_) (.slice (some ⟨go36, 0, none⟩) x4_3.length co23) x4_3 from (by (with_reducible repeat (first | apply Kd.S_alloc | apply Kd.S_drewN | apply Kd.S_drew)); exact Kd.S_mono HO_4.out (fun k_ hk => ⟨trivial, fun e_ => hk e_⟩))))); (try (obtain ⟨oki37, ce37, hcl37, hM37, hcc37, hfr37, hoki37, hH37⟩ := Kd.S_elem HX37.out [] (x7_3 : Int) (of_decide_eq_true az) (by have h_ : (x7_3 : Int) < ((x4_3.length : Int) : Int) := of_decide_eq_true az; first | exact h_ | (have e_ := (Kd.S_reads' HO_4.out).1; omega) | simpa using h_))); (try (obtain ⟨ve37_0, rfl, ge37_0⟩ := hM37)); (try (have HP37 := Kd.S_seg hH37 (of_decide_eq_true az) (by have h_ : (x7_3 : Int) < ((x4_3.length : Int) : Int) := of_decide_eq_true az; first | exact h_ | (have e_ := (Kd.S_reads' HO_4.out).1; omega) | simpa using h_) (seg := [v274]) (j := 0) (show 1 ≤ 1 from by decide) (x' := t273) (Kd.M_row (Kd.R_mono (Kd.R_tight rfl (Kd.R_mono (ok' := fun k_ => ((fun _ => True)) k_ ∧ k_ ≠ go36) (Kd.R_apart' (HO_8.out) (Kd.S_typed HO_4.out) (by decide)) (fun k_ hk => ⟨trivial, fun e_ => (hk.2) (by rw [e_]; rfl)⟩))) (fun _ h_ => Or.inr (h_)))) (fun _ hk => hk) (fun k_ hk_ => ((Kd.R_mono (ok' := fun k_ => ((fun _ => True)) k_ ∧ k_ ≠ go36) (Kd.R_apart' (HO_8.out) (Kd.S_typed HO_4.out) (by decide)) (fun k_ hk => ⟨trivial, fun e_ => (hk.2) (by rw [e_]; rfl)⟩))).1 k_ hk_.symm))); (try (have hx37_0 := hcc37 0 _ rfl)); (try (try simp only [show ((Kd.slice 4 Kd.bool)).sz = 1 from rfl, Nat.mul_one, Nat.add_zero] at hx37_0)); (try (have hf37_0 := hfr37 0)); (try (try simp only [show ((Kd.slice 4 Kd.bool)).sz = 1 from rfl, Nat.mul_one, Nat.add_zero] at hf37_0)); (try (clear hcl37 hcc37 hfr37 hM37 hoki37 hH37)); (try (try simp only [show ((Kd.slice 4 Kd.bool)).sz = 1 from rfl, Nat.mul_one, Nat.add_zero] at HP37)))); (try have st37_0 := fun (a_ : Addr) (m_ : Mode) (W_ : World) => run_store Try.prog W_ a_ v274 m_ (Kd.R_val HO_8.out).2); refine store_event (t := 97) (p := 59) (v := ?vo_w38) (w1 := (wr.setCell ⟨go36, (x7_3 : Int).toNat, none⟩ (v274))) ?hg ?ho ?hn ?hr ?_; (case ho => rfl); (case hg => rfl); (case hn => rfl); (case hr => first | (go_simp; done) | (go_simp; rfl) | (obtain ⟨Av_, cv_, ev_⟩ := Kd.R_slice HO_8.out; (try clear st37_0); (try clear st43_0); subst ev_; first | (go_simp; done) | (go_simp; rfl))); intro w38 hw; have hg : wr.grownBy w38 (some go36) := (by rw [hw]; exact HP37.2); have hp_ : Kd.S (Kd.slice 4 Kd.bool) 97 w38 w.heap.size (fun _ => True) (.slice (some ⟨go36, 0, none⟩) x4_3.length co23) y279 := (by rw [hw, Ny279.out]; exact HP37.1); clear HP37; (try clear st37_0); have n0_ := Aside0.mk (hp_); have n1_ := Aside0.mk (blk_grown (g := gb262) (o := .cells #[.int .i64 a0_0, .slice A0_1 l0_1.length c0_1, .slice A0_2 l0_2.length c0_2] 29 (0, 0)) kz hg (Kd.S_ne HO_4.out BK262.out (by decide))); have n2_ := Aside0.mk ((by rw [hw]; exact below_set (HB.out) GB36.out : Below w.heap.size w w38)); clear HO_4; clear BK262; clear HB; clear HO_8; have HO_4 := n0_; have BK262 := n1_; have HB := n2_; clear n0_ n1_ n2_; clear hg hw hp_)))
                     go_roundg k4
                     case measure => have := HK1.out; have := HK2.out; have := HK3.out; have := HK4.out; omega
                     case rel => exact ⟨(y279), (x6_4), (wrap64 (x7_3 - 1)), sz_, sz_, H', ⟨by have := HK1.out; have := HK2.out; have := HK3.out; have := HK4.out; omega⟩, ⟨by (with_reducible repeat (first | apply Kd.S_alloc | apply Kd.S_drewN | apply Kd.S_drew)); exact HO_4.out⟩, ⟨ kz⟩, ⟨ bz⟩⟩
                   · rw [if_neg c35] at H
                     exact absurd H (by simp)
                 · rw [if_neg c34] at H
                   exact absurd H (by simp)
           · rw [if_neg c20] at H
             have c20b0 : decide (0 ≤ x7_3) = false := decide_eq_false c20
             clear c20
             have H' := Aside0.mk H
             clear H
             go_wp2
             repeat (go_quiet (fail); try go_wp2)
             go_roundg k3
             case measure => have := HK1.out; have := HK2.out; have := HK3.out; omega
             case rel => exact ⟨(x4_3), (x6_3), sz_, H', ⟨by have := HK1.out; have := HK2.out; have := HK3.out; omega⟩, ⟨by (with_reducible repeat (first | apply Kd.S_alloc | apply Kd.S_drewN | apply Kd.S_drew)); exact HO_4.out⟩, ⟨ kz⟩, ⟨ bz⟩⟩
       · replace c18 := Bool.eq_false_iff.mpr c18
         subst c18
         have H1 : (some x4_2) = some r := by rw [if_neg (show ¬ (false = true) by decide)] at H; exact H
         clear H
         have H := H1
         clear H1
         obtain rfl := Option.some.inj H
         go_wp2
         repeat (go_quiet (fail); try go_wp2)
         go_ret
         exact ⟨_, by first | rfl | (simp [errW_none, errW_some] <;> rfl) | (simp [*, errW_none, errW_some] <;> rfl), by (with_reducible repeat (first | apply Kd.S_alloc | apply Kd.S_drewN | apply Kd.S_drew)); exact HO_4.out, bz⟩

set_option linter.unusedVariables false
set_option linter.unusedSimpArgs false

def onesL (m : Nat) (s : List Bool) : List Int := ((List.range m).filter fun r => s.getD r false).map fun (r : Nat) => (r : Int)
theorem onesL_succ (m : Nat) (s : List Bool) : onesL (m + 1) s = if s.getD m false = true then onesL m s ++ [(m : Int)] else onesL m s := by
 unfold onesL
 rw [List.range_succ, List.filter_append, List.map_append]
 cases h : s.getD m false
 · rw [List.filter_cons_of_neg (by rw [h]; simp)]; simp
 · rw [List.filter_cons_of_pos (by exact h)]; simp
theorem onesL_len (m : Nat) (s : List Bool) : (onesL m s).length ≤ m := by unfold onesL; rw [List.length_map]; exact Nat.le_trans (List.length_filter_le _ _) (by simp)
def spec_LiveRegs.f (k : Nat) (a0_0 : Int) (l0_1 : List Int) (l0_2 : List (S85)) (a1 : Int) : Option (List Int) :=
 if a1 < 0 then some [] else if (l0_2.length : Int) ≤ a1 then some [] else (spec_l18Live.f k a0_0 l0_1 l0_2).bind fun t => if a1 < (t.length : Int) then if (t.getD a1.toNat []).length ≤ 1000000000 then some (onesL (t.getD a1.toNat []).length (t.getD a1.toNat [])) else none else none
set_option maxHeartbeats 8000000 in
set_option maxRecDepth 100000 in
theorem spec_LiveRegs.calls (k : Nat) (a0_0 : Int) (A0_1 : Option Addr) (c0_1 : Nat) (l0_1 : List Int) (A0_2 : Option Addr) (c0_2 : Nat) (l0_2 : List (S85)) (a1 : Int) (r : List Int) (w : World) (hr0_1 : Kd.C (Kd.int .i64) w A0_1 l0_1.length l0_1) (hc0_1 : l0_1.length ≤ c0_1) (hr0_2 : Kd.C k85 w A0_2 l0_2.length l0_2) (hc0_2 : l0_2.length ≤ c0_2) (h : spec_LiveRegs.f k a0_0 l0_1 l0_2 a1 = some r) :
 Calls Try.prog 18 #[.agg #[.int .i64 a0_0, .slice A0_1 l0_1.length c0_1, .slice A0_2 l0_2.length c0_2], .int .i64 a1] w fun e w' => ∃ v0_ : Value, e = .returned (v0_) ∧ Kd.R (Kd.int .i64) 2 w' w.heap.size (fun _ => True) v0_ r ∧ Below w.heap.size w w' := by
 have hu1 := Try.underlying29
 have HR1 := Aside0.mk hr0_1
 have HR := Aside0.mk hr0_2
 clear hr0_1 hr0_2
 unfold spec_LiveRegs.f at h
 have hb0 := blk_new w (.cells #[.int .i64 a0_0, .slice A0_1 l0_1.length c0_1, .slice A0_2 l0_2.length c0_2] 29 (0, 0))
 have b2 := (blk_cell hb0 2).trans rfl
 have BX := Aside0.mk hb0
 have HB0 := Aside0.mk (below_alloc (Below.refl w.heap.size w) (.cells #[.int .i64 a0_0, .slice A0_1 l0_1.length c0_1, .slice A0_2 l0_2.length c0_2] 29 (0, 0)))
 clear hb0
 by_cases c0 : a1 < 0
 · rw [if_pos c0] at h
   obtain rfl := Option.some.inj h
   have c0b : decide (a1 < 0) = true := decide_eq_true c0
   clear h
   go_enter Try.func18, Try.ntmps18
   go_wp2_with (first | ((with_reducible refine gate_dst (N := 8) rfl ?_); refine Kd.R_lit (Kd.int .i64) _ 2 ?hg (N := 8) ?hd (xs := ([] : List Int)) (inner := []) (ok := fun _ => True) (okp := fun _ => True) ?hr ?hp (fun _ hk => hk) trivial (Below.refl _ _) (Nat.le_refl _) (by simp) ?_; (case hd => rfl); (case hg => rfl); (case hr => first | (go_simp; done) | (go_simp; rfl)); (case hp => exact (Reps.none _ _)); intro v5 w5 ho5 hb5 hg5 hn5; have HO5 := Aside0.mk ho5; have BX5 := Aside0.mk (blk_below BX.out hb5); have HB5 := Aside0.mk (below_step HB0.out hb5); have b0 := (blk_cell BX5.out 0).trans rfl; have b1 := (blk_cell BX5.out 1).trans rfl; have b2 := (blk_cell BX5.out 2).trans rfl; clear ho5 hb5 hg5 hn5))
   go_ret
   exact ⟨_, rfl, Kd.R_lower HO5.out HB0.out.size, HB5.out⟩
 · rw [if_neg c0] at h
   have c0b : decide (a1 < 0) = false := decide_eq_false c0
   by_cases c1 : (l0_2.length : Int) ≤ a1
   · rw [if_pos c1] at h
     obtain rfl := Option.some.inj h
     have c1b : decide ((l0_2.length : Int) ≤ a1) = true := decide_eq_true c1
     clear h b2
     go_enter Try.func18, Try.ntmps18
     go_wp2_with (first | ((with_reducible refine gate_dst (N := 8) rfl ?_); refine Kd.R_lit (Kd.int .i64) _ 2 ?hg (N := 8) ?hd (xs := ([] : List Int)) (inner := []) (ok := fun _ => True) (okp := fun _ => True) ?hr ?hp (fun _ hk => hk) trivial (Below.refl _ _) (Nat.le_refl _) (by simp) ?_; (case hd => rfl); (case hg => rfl); (case hr => first | (go_simp; done) | (go_simp; rfl)); (case hp => exact (Reps.none _ _)); intro v5 w5 ho5 hb5 hg5 hn5; have HO5 := Aside0.mk ho5; have BX5 := Aside0.mk (blk_below BX.out hb5); have HB5 := Aside0.mk (below_step HB0.out hb5); have b0 := (blk_cell BX5.out 0).trans rfl; have b1 := (blk_cell BX5.out 1).trans rfl; have b2 := (blk_cell BX5.out 2).trans rfl; clear ho5 hb5 hg5 hn5))
     go_ret
     exact ⟨_, rfl, Kd.R_lower HO5.out HB0.out.size, HB5.out⟩
   · rw [if_neg c1] at h
     have c1b : decide ((l0_2.length : Int) ≤ a1) = false := decide_eq_false c1
     obtain ⟨t, ht, h⟩ := Option.bind_eq_some_iff.1 h
     split at h
     case isFalse => cases h
     rename_i q3
     split at h
     case isFalse => cases h
     rename_i hn9
     have p3 : 0 ≤ a1 := by omega
     obtain ⟨row, hrow⟩ : ∃ row, row = t.getD a1.toNat [] := ⟨_, rfl⟩
     rw [← hrow] at h hn9
     have HF := Aside0.mk (Option.some.inj h)
     have HT := Aside0.mk ht
     have HROW := Aside0.mk hrow
     clear h ht hrow b2
     go_enter Try.func18, Try.ntmps18
     go_wp2_with (first | ((with_reducible refine gate_dst (N := 8) rfl ?_); refine Kd.R_lit (Kd.int .i64) _ 2 ?hg (N := 8) ?hd (xs := ([] : List Int)) (inner := []) (ok := fun _ => True) (okp := fun _ => True) ?hr ?hp (fun _ hk => hk) trivial (Below.refl _ _) (Nat.le_refl _) (by simp) ?_; (case hd => rfl); (case hg => rfl); (case hr => first | (go_simp; done) | (go_simp; rfl)); (case hp => exact (Reps.none _ _)); intro v5 w5 ho5 hb5 hg5 hn5; have HO5 := Aside0.mk ho5; have BX5 := Aside0.mk (blk_below BX.out hb5); have HB5 := Aside0.mk (below_step HB0.out hb5); have b0 := (blk_cell BX5.out 0).trans rfl; have b1 := (blk_cell BX5.out 1).trans rfl; have b2 := (blk_cell BX5.out 2).trans rfl; clear ho5 hb5 hg5 hn5) | (go_at_call 69; refine (spec_l18Live.calls k a0_0 A0_1 c0_1 l0_1 A0_2 c0_2 l0_2 t _ (Kd.C_below HR1.out HB5.out) hc0_1 (Kd.C_below HR.out HB5.out) hc0_2 HT.out).mono ?_; rintro e w6 ⟨v6, rfl, hs6, hb6⟩; obtain ⟨g6, c6, e6, _, hg6, _⟩ := Kd.S_form hs6 (by omega); subst e6; obtain ⟨oki, ce, hcl, hM, hcc, hfr, hoki, _⟩ := Kd.S_elem hs6 [] a1 p3 q3; rw [← HROW.out] at hM; obtain ⟨ve, rfl, hve⟩ := hM; have hx0 := hcc 0 _ rfl; have hf0 := hfr 0; simp only [show ((Kd.slice 4 Kd.bool)).sz = 1 from rfl, Nat.mul_one, Nat.add_zero] at hx0 hf0; obtain ⟨Ae, cce, eve⟩ := Kd.R_slice hve; subst eve; have HVE := Aside0.mk hve; have HB6 := Aside0.mk hb6; clear hs6 hcl hcc hfr hoki hve hb6 b0 b1 b2))
     have hlo : ∀ q, (Value.slice Ae row.length cce).ownBlock = some q → w5.heap.size ≤ q ∧ q < w6.heap.size := fun q hq => HVE.out.2.choose_spec.1.lt q hq
     have hv5 : ∀ q, v5.ownBlock = some q → q < w5.heap.size := fun q hq => (HO5.out.2.choose_spec.1.lt q hq).2
     have HE := Aside0.mk (Kd.R_mono (Kd.R_tight rfl HVE.out) (ok' := fun q => some q = (Value.slice Ae row.length cce).ownBlock) (fun q hq => hq))
     have HX := Aside0.mk (Kd.R_mono (Kd.R_tight rfl (Kd.R_below (Kd.R_lower HO5.out HB0.out.size) HB6.out)) (ok' := fun q => some q ≠ (Value.slice Ae row.length cce).ownBlock) (fun q hq e => by have h1 := hlo q e.symm; have h2 := hv5 q hq.symm; omega))
     have HBB := Aside0.mk (below_step HB5.out HB6.out)
     have HLO := Aside0.mk hlo
     clear hx0 hf0 hlo hv5 HVE
     have hsz6 : w6.heap.size ≤ w6.heap.size := Nat.le_refl _
     go_wp2
     go_loopw [5, 7] (fun v v7 wr => ∃ (m : Nat), m ≤ row.length ∧ v7 = .int .i64 (m : Int) ∧ Aside0 (Kd.R (Kd.int .i64) 2 wr w.heap.size (fun q => some q ≠ (Value.slice Ae row.length cce).ownBlock) v (onesL m row)) ∧ Aside0 (Kd.R Kd.bool 4 wr w5.heap.size (fun q => some q = (Value.slice Ae row.length cce).ownBlock) (.slice Ae row.length cce) row) ∧ Aside0 (Below w.heap.size w wr) ∧ w6.heap.size ≤ wr.heap.size) (fun _ v _ => row.length - (intOf v).toNat)
     case atStart => exact ⟨0, Nat.zero_le _, rfl, HX, HE, HBB, Nat.le_refl _⟩
     case round =>
      clear HX HE HBB hsz6
      obtain ⟨m, hm, rfl, HX, HE, HBB, hsz⟩ := hrel
      by_cases hlm : m < row.length
      · obtain ⟨g9, cap9, e9, _, _, _⟩ := Kd.R_form HE.out (by omega)
        injection e9 with e9 e10 e11
        subst e9
        obtain ⟨cn, zn⟩ := Kd.R_celln false HE.out (m : Int) (by omega) (by omega)
        obtain ⟨x, hx⟩ : ∃ x, x = row.getD m false := ⟨_, rfl⟩
        have hrx : rdOf false row (m : Int) = x := by rw [hx]; simp [rdOf, List.getD_eq_getElem?_getD]
        rw [hrx, Int.toNat_natCast] at cn
        rw [Int.toNat_natCast] at zn
        have hon := onesL_succ m row
        rw [← hx] at hon
        have HON := Aside0.mk hon
        clear hx hrx hon e10 e11
        cases x with
        | true =>
         have hol := onesL_len m row
         have hon : onesL (m + 1) row = onesL m row ++ [(m : Int)] := HON.out
         obtain ⟨os, hos⟩ : ∃ os, os = onesL m row := ⟨_, rfl⟩
         rw [← hos] at HX hol hon
         obtain ⟨Au, cu, eu⟩ := Kd.R_slice HX.out
         subst eu
         have HN := Aside0.mk hon
         have HOS := Aside0.mk hos
         clear hon hos HON
         go_wp2_with (first | (at_builtin; refine Kd.R_append (Kd.int .i64) (w0 := w) w.heap.size rfl (.tmp 34) (.tmp 36) 22 2 (.int .i64 0) 8 rfl Try.underlying22 info2 rfl (by decide) (by decide) (.slice Au os.length cu) os (m : Int) [.int .i64 (m : Int)] (fun q => some q ≠ (Value.slice (some ⟨g9, 0, none⟩) row.length cce).ownBlock) (fun _ => False) rfl rfl ?aP (fun _ hk => hk.elim) ?aF ?aO ?aB ?aS ?aL ?_; (case aP => exact rfl); (case aF => exact (fun q hq e => by have := (HLO.out q e.symm).2; omega)); (case aO => exact HX.out); (case aB => exact HBB.out); (case aS => exact HBB.out.size); (case aL => omega); intro v8 w8 ho8 hb8 hg8 hat8; have HX8 := Aside0.mk ho8; have HB8 := Aside0.mk hb8; have HE8 := Aside0.mk (Kd.R_grown HE.out hg8 (fun q hq e => HX.out.1 q e.symm hq)); have hsz8 := hg8.size; clear ho8 hb8 hg8 hat8))
         go_roundw
         case measure => simp [intOf]; omega
         case rel => exact ⟨m + 1, by omega, by go_num, ⟨by rw [HN.out]; exact HX8.out⟩, HE8, HB8, by omega⟩
        | false =>
         have hon : onesL (m + 1) row = onesL m row := HON.out
         have HX2 := Aside0.mk HX.out
         rw [← hon] at HX2
         clear hon
         go_wp2
         go_roundw
         case measure => simp [intOf]; omega
         case rel => exact ⟨m + 1, by omega, by go_num, HX2, HE, HBB, hsz⟩
      · have hme : m = row.length := by omega
        subst hme
        go_wp2
        go_ret
        exact ⟨_, rfl, by rw [← HF.out]; exact Kd.R_mono HX.out (fun _ _ => trivial), HBB.out⟩

set_option linter.unusedVariables false
set_option linter.unusedSimpArgs false

mutual
def impl_Reads.j0 : Nat → List Int → Int → Bool → Int → Int → Int → Int → Int → Int → ByteArray → List Int → Option (List Int)
 | 0, _, _, _, _, _, _, _, _, _, _, _ => none
 | k + 1, x3, x4, x21, x352000, x352001, x352002, x352003, x352004, x352005, x352006, x352007 => if x21 = true then (impl_Reads.j1 k x3 (-1) x352000 x352001 x352002 x352003 x352004 x352005 x352006 x352007) else (impl_Reads.j1 k x3 x4 x352000 x352001 x352002 x352003 x352004 x352005 x352006 x352007)
def impl_Reads.j1 : Nat → List Int → Int → Int → Int → Int → Int → Int → Int → ByteArray → List Int → Option (List Int)
 | 0, _, _, _, _, _, _, _, _, _, _ => none
 | k + 1, x3, x4, x352000, x352001, x352002, x352003, x352004, x352005, x352006, x352007 => (some (([x352002, x352003, x4] : List Int) : List Int)).bind fun y352 => (if y352.length + x352007.length < 17592186044416 then ((some (y352 ++ x352007 : List Int)).bind fun y355 => (impl_Reads.l0 k x3 y355 (y355.length : Int) 0)) else (none))
def impl_Reads.l0 : Nat → List Int → List Int → Int → Int → Option (List Int)
 | 0, _, _, _, _ => none
 | k + 1, x3, x30, x31, x32 => if x32 < x31 then (if 0 ≤ x32 then (if x32 < (x30.length : Int) then (if (rd x30 x32) ≥ 0 then (if x3.length < 17592186044416 then (impl_Reads.l0 k (x3 ++ [rd x30 x32]) x30 x31 (wrap64 (x32 + 1))) else (none)) else (impl_Reads.l0 k x3 x30 x31 (wrap64 (x32 + 1)))) else (none)) else (none)) else (some x3)
end
def impl_Reads.f (k : Nat) (a0_0 : Int) (a0_1 : Int) (a0_2 : Int) (a0_3 : Int) (a0_4 : Int) (a0_5 : Int) (a0_6 : ByteArray) (l0_7 : List Int) : Option (List Int) := if a0_0 = 20 then (impl_Reads.j0 k ([] : List Int) a0_4 true a0_0 a0_1 a0_2 a0_3 a0_4 a0_5 a0_6 l0_7) else (if a0_0 = 21 then (impl_Reads.j0 k ([] : List Int) a0_4 true a0_0 a0_1 a0_2 a0_3 a0_4 a0_5 a0_6 l0_7) else (impl_Reads.j0 k ([] : List Int) a0_4 (a0_0 == 46) a0_0 a0_1 a0_2 a0_3 a0_4 a0_5 a0_6 l0_7))
set_option maxHeartbeats 8000000 in
set_option maxRecDepth 100000 in
theorem impl_Reads.calls (k : Nat) (a0_0 : Int) (a0_1 : Int) (a0_2 : Int) (a0_3 : Int) (a0_4 : Int) (a0_5 : Int) (a0_6 : ByteArray) (A0_7 : Option Addr) (c0_7 : Nat) (l0_7 : List Int) (r : List Int) (w : World) (hr0_7 : Kd.C (Kd.int .i64) w A0_7 l0_7.length l0_7) (hc0_7 : l0_7.length ≤ c0_7) (h : impl_Reads.f k a0_0 a0_1 a0_2 a0_3 a0_4 a0_5 a0_6 l0_7 = some r) :
 Calls Try.prog 64 #[.agg #[.int .i64 a0_0, .int .i64 a0_1, .int .i64 a0_2, .int .i64 a0_3, .int .i64 a0_4, .int .i64 a0_5, .string a0_6, .slice A0_7 l0_7.length c0_7]] w fun e w' => ∃ v0_ : Value, e = .returned (v0_) ∧ Kd.R (Kd.int .i64) 2 w' w.heap.size (fun _ => True) v0_ r ∧ Below w.heap.size w w' := by
 have hu87 := Try.underlying87
 have HR0_7 := Aside0.mk hr0_7
 have HC0_7 := Aside0.mk hc0_7
 clear hr0_7 hc0_7
 have HB := Aside0.mk (Below.refl w.heap.size w)
 have H : (if a0_0 = 20 then (impl_Reads.j0 k ([] : List Int) a0_4 true a0_0 a0_1 a0_2 a0_3 a0_4 a0_5 a0_6 l0_7) else (if a0_0 = 21 then (impl_Reads.j0 k ([] : List Int) a0_4 true a0_0 a0_1 a0_2 a0_3 a0_4 a0_5 a0_6 l0_7) else (impl_Reads.j0 k ([] : List Int) a0_4 (a0_0 == 46) a0_0 a0_1 a0_2 a0_3 a0_4 a0_5 a0_6 l0_7))) = some r := h
 clear h
 have HC2 := Aside0.mk H
 clear H
 go_enter Try.func64, Try.ntmps64
 go_upto_region 3 with (first | ((with_reducible refine gate_dst (N := 1) rfl ?_); refine box_event ?hg (N := 1) ?hd (cs := #[.int .i64 a0_0, .int .i64 a0_1, .int .i64 a0_2, .int .i64 a0_3, .int .i64 a0_4, .int .i64 a0_5, .string a0_6, .slice A0_7 l0_7.length c0_7]) (t := 87) ?hr ?_; (case hd => rfl); (case hg => rfl); (case hr => first | (go_simp; done) | (go_simp; rfl)); intro gb351 hg w3 hbox hb; have n0_ := Aside0.mk (below_step bz hb); have n1_ := Aside0.mk (hbox); have n2_ := Aside0.mk ((by rw [hg]; exact (below_size bz) : w.heap.size ≤ gb351)); have n3_ := Aside0.mk ((by rw [hg]; exact (below_size bz) : w.heap.size ≤ gb351)); clear HB; have HB := n0_; have BK351 := n1_; have GW351 := n2_; have GE351 := n3_; clear n0_ n1_ n2_ n3_; clear hb hbox hg; have hcz4_0 : w3.cell? ⟨gb351, 0, none⟩ = some (.int .i64 a0_0) := (blk_cell BK351.out 0).trans rfl; have hcz4_1 : w3.cell? ⟨gb351, 1, none⟩ = some (.int .i64 a0_1) := (blk_cell BK351.out 1).trans rfl; have hcz4_2 : w3.cell? ⟨gb351, 2, none⟩ = some (.int .i64 a0_2) := (blk_cell BK351.out 2).trans rfl; have hcz4_3 : w3.cell? ⟨gb351, 3, none⟩ = some (.int .i64 a0_3) := (blk_cell BK351.out 3).trans rfl; have hcz4_4 : w3.cell? ⟨gb351, 4, none⟩ = some (.int .i64 a0_4) := (blk_cell BK351.out 4).trans rfl; have hcz4_5 : w3.cell? ⟨gb351, 5, none⟩ = some (.int .i64 a0_5) := (blk_cell BK351.out 5).trans rfl; have hcz4_6 : w3.cell? ⟨gb351, 6, none⟩ = some (.string a0_6) := (blk_cell BK351.out 6).trans rfl; have hcz4_7 : w3.cell? ⟨gb351, 7, none⟩ = some (.slice A0_7 l0_7.length c0_7) := (blk_cell BK351.out 7).trans rfl; have hfz4_0 := blk_frozen BK351.out 0; have hfz4_1 := blk_frozen BK351.out 1; have hfz4_2 := blk_frozen BK351.out 2; have hfz4_3 := blk_frozen BK351.out 3; have hfz4_4 := blk_frozen BK351.out 4; have hfz4_5 := blk_frozen BK351.out 5; have hfz4_6 := blk_frozen BK351.out 6; have hfz4_7 := blk_frozen BK351.out 7))
 (try simp only [Act.put, sx1, sx2, sx3])
 go_cut [21] (fun v21 wc => ∃ (kq : Nat) (x21_1 : Bool), v21 = .bool x21_1 ∧ Aside0 (impl_Reads.j0 kq ([] : List Int) a0_4 x21_1 a0_0 a0_1 a0_2 a0_3 a0_4 a0_5 a0_6 l0_7 = some r) ∧ Aside0 (kq ≤ k) ∧ Aside0 (Kd.R (Kd.int .i64) 2 wc w.heap.size (fun _ => True) (.slice none 0 0) ([] : List Int)) ∧ Aside0 (wc.heap[gb351]? = some (.cells #[.int .i64 a0_0, .int .i64 a0_1, .int .i64 a0_2, .int .i64 a0_3, .int .i64 a0_4, .int .i64 a0_5, .string a0_6, (.slice A0_7 l0_7.length c0_7)] 87 (0, 0))) ∧ Aside0 (Below w.heap.size w wc))
 case first =>
  have H := HC2.out
  clear HC2
  by_cases c5 : a0_0 = 20
  · rw [if_pos c5] at H
    have c5b0 : (a0_0 == 20) = true := beq_iff_eq.mpr c5
    have c5b1 : (a0_0 != 20) = false := bne_eq_false_iff_eq.mpr c5
    clear c5
    (first | rw [c5b0] | (simp only [i64_w, i32_w]; rw [c5b0]) | skip)
    have H' := Aside0.mk H
    clear H
    have hcz6_0 : w3.cell? ⟨gb351, 0, none⟩ = some (.int .i64 a0_0) := (blk_cell BK351.out 0).trans rfl
    have hcz6_1 : w3.cell? ⟨gb351, 1, none⟩ = some (.int .i64 a0_1) := (blk_cell BK351.out 1).trans rfl
    have hcz6_2 : w3.cell? ⟨gb351, 2, none⟩ = some (.int .i64 a0_2) := (blk_cell BK351.out 2).trans rfl
    have hcz6_3 : w3.cell? ⟨gb351, 3, none⟩ = some (.int .i64 a0_3) := (blk_cell BK351.out 3).trans rfl
    have hcz6_4 : w3.cell? ⟨gb351, 4, none⟩ = some (.int .i64 a0_4) := (blk_cell BK351.out 4).trans rfl
    have hcz6_5 : w3.cell? ⟨gb351, 5, none⟩ = some (.int .i64 a0_5) := (blk_cell BK351.out 5).trans rfl
    have hcz6_6 : w3.cell? ⟨gb351, 6, none⟩ = some (.string a0_6) := (blk_cell BK351.out 6).trans rfl
    have hcz6_7 : w3.cell? ⟨gb351, 7, none⟩ = some (.slice A0_7 l0_7.length c0_7) := (blk_cell BK351.out 7).trans rfl
    have hfz6_0 := blk_frozen BK351.out 0
    have hfz6_1 := blk_frozen BK351.out 1
    have hfz6_2 := blk_frozen BK351.out 2
    have hfz6_3 := blk_frozen BK351.out 3
    have hfz6_4 := blk_frozen BK351.out 4
    have hfz6_5 := blk_frozen BK351.out 5
    have hfz6_6 := blk_frozen BK351.out 6
    have hfz6_7 := blk_frozen BK351.out 7
    go_wp2
    go_meet
    case rel => exact ⟨_, (true), sz_, H', ⟨by first | omega | exact Nat.le_refl _⟩, ⟨by first | exact Kd.R_nil _ _ _ _ _ | exact Kd.N_nil _ _ _ _ _ | exact Kd.V_nil _ _ _ _ _ | exact Kd.Q_nil _ _ _ _ _ | exact Kd.S_nil _ _ _ _ _⟩, ⟨ kz⟩, ⟨ bz⟩⟩
  · rw [if_neg c5] at H
    have c5b0 : (a0_0 == 20) = false := beq_eq_false_iff_ne.mpr c5
    have c5b1 : (a0_0 != 20) = true := bne_iff_ne.mpr c5
    (first | rw [c5b0] | (simp only [i64_w, i32_w]; rw [c5b0]) | skip)
    by_cases c7 : a0_0 = 21
    · rw [if_pos c7] at H
      have c7b0 : (a0_0 == 21) = true := beq_iff_eq.mpr c7
      have c7b1 : (a0_0 != 21) = false := bne_eq_false_iff_eq.mpr c7
      clear c7
      have H' := Aside0.mk H
      clear H
      have hcz8_0 : w3.cell? ⟨gb351, 0, none⟩ = some (.int .i64 a0_0) := (blk_cell BK351.out 0).trans rfl
      have hcz8_1 : w3.cell? ⟨gb351, 1, none⟩ = some (.int .i64 a0_1) := (blk_cell BK351.out 1).trans rfl
      have hcz8_2 : w3.cell? ⟨gb351, 2, none⟩ = some (.int .i64 a0_2) := (blk_cell BK351.out 2).trans rfl
      have hcz8_3 : w3.cell? ⟨gb351, 3, none⟩ = some (.int .i64 a0_3) := (blk_cell BK351.out 3).trans rfl
      have hcz8_4 : w3.cell? ⟨gb351, 4, none⟩ = some (.int .i64 a0_4) := (blk_cell BK351.out 4).trans rfl
      have hcz8_5 : w3.cell? ⟨gb351, 5, none⟩ = some (.int .i64 a0_5) := (blk_cell BK351.out 5).trans rfl
      have hcz8_6 : w3.cell? ⟨gb351, 6, none⟩ = some (.string a0_6) := (blk_cell BK351.out 6).trans rfl
      have hcz8_7 : w3.cell? ⟨gb351, 7, none⟩ = some (.slice A0_7 l0_7.length c0_7) := (blk_cell BK351.out 7).trans rfl
      have hfz8_0 := blk_frozen BK351.out 0
      have hfz8_1 := blk_frozen BK351.out 1
      have hfz8_2 := blk_frozen BK351.out 2
      have hfz8_3 := blk_frozen BK351.out 3
      have hfz8_4 := blk_frozen BK351.out 4
      have hfz8_5 := blk_frozen BK351.out 5
      have hfz8_6 := blk_frozen BK351.out 6
      have hfz8_7 := blk_frozen BK351.out 7
      go_wp2
      go_meet
      case rel => exact ⟨_, (true), sz_, H', ⟨by first | omega | exact Nat.le_refl _⟩, ⟨by first | exact Kd.R_nil _ _ _ _ _ | exact Kd.N_nil _ _ _ _ _ | exact Kd.V_nil _ _ _ _ _ | exact Kd.Q_nil _ _ _ _ _ | exact Kd.S_nil _ _ _ _ _⟩, ⟨ kz⟩, ⟨ bz⟩⟩
    · rw [if_neg c7] at H
      have c7b0 : (a0_0 == 21) = false := beq_eq_false_iff_ne.mpr c7
      have c7b1 : (a0_0 != 21) = true := bne_iff_ne.mpr c7
      have H' := Aside0.mk H
      clear H
      have hcz9_0 : w3.cell? ⟨gb351, 0, none⟩ = some (.int .i64 a0_0) := (blk_cell BK351.out 0).trans rfl
      have hcz9_1 : w3.cell? ⟨gb351, 1, none⟩ = some (.int .i64 a0_1) := (blk_cell BK351.out 1).trans rfl
      have hcz9_2 : w3.cell? ⟨gb351, 2, none⟩ = some (.int .i64 a0_2) := (blk_cell BK351.out 2).trans rfl
      have hcz9_3 : w3.cell? ⟨gb351, 3, none⟩ = some (.int .i64 a0_3) := (blk_cell BK351.out 3).trans rfl
      have hcz9_4 : w3.cell? ⟨gb351, 4, none⟩ = some (.int .i64 a0_4) := (blk_cell BK351.out 4).trans rfl
      have hcz9_5 : w3.cell? ⟨gb351, 5, none⟩ = some (.int .i64 a0_5) := (blk_cell BK351.out 5).trans rfl
      have hcz9_6 : w3.cell? ⟨gb351, 6, none⟩ = some (.string a0_6) := (blk_cell BK351.out 6).trans rfl
      have hcz9_7 : w3.cell? ⟨gb351, 7, none⟩ = some (.slice A0_7 l0_7.length c0_7) := (blk_cell BK351.out 7).trans rfl
      have hfz9_0 := blk_frozen BK351.out 0
      have hfz9_1 := blk_frozen BK351.out 1
      have hfz9_2 := blk_frozen BK351.out 2
      have hfz9_3 := blk_frozen BK351.out 3
      have hfz9_4 := blk_frozen BK351.out 4
      have hfz9_5 := blk_frozen BK351.out 5
      have hfz9_6 := blk_frozen BK351.out 6
      have hfz9_7 := blk_frozen BK351.out 7
      go_wp2
      go_meet
      case rel => exact ⟨_, ((a0_0 == 46)), sz_, H', ⟨by first | omega | exact Nat.le_refl _⟩, ⟨by first | exact Kd.R_nil _ _ _ _ _ | exact Kd.N_nil _ _ _ _ _ | exact Kd.V_nil _ _ _ _ _ | exact Kd.Q_nil _ _ _ _ _ | exact Kd.S_nil _ _ _ _ _⟩, ⟨ kz⟩, ⟨ bz⟩⟩
 case rest =>
  clear HC2
  try clear p2
  try clear c5
  try clear c5b0
  try clear c5b1
  try clear c6
  try clear c7
  try clear c7b0
  try clear c7b1
  try clear hcz4_0
  try clear hcz4_1
  try clear hcz4_2
  try clear hcz4_3
  try clear hcz4_4
  try clear hcz4_5
  try clear hcz4_6
  try clear hcz4_7
  try clear hcz6_0
  try clear hcz6_1
  try clear hcz6_2
  try clear hcz6_3
  try clear hcz6_4
  try clear hcz6_5
  try clear hcz6_6
  try clear hcz6_7
  try clear hcz8_0
  try clear hcz8_1
  try clear hcz8_2
  try clear hcz8_3
  try clear hcz8_4
  try clear hcz8_5
  try clear hcz8_6
  try clear hcz8_7
  try clear hcz9_0
  try clear hcz9_1
  try clear hcz9_2
  try clear hcz9_3
  try clear hcz9_4
  try clear hcz9_5
  try clear hcz9_6
  try clear hcz9_7
  try clear hfz4_0
  try clear hfz4_1
  try clear hfz4_2
  try clear hfz4_3
  try clear hfz4_4
  try clear hfz4_5
  try clear hfz4_6
  try clear hfz4_7
  try clear hfz6_0
  try clear hfz6_1
  try clear hfz6_2
  try clear hfz6_3
  try clear hfz6_4
  try clear hfz6_5
  try clear hfz6_6
  try clear hfz6_7
  try clear hfz8_0
  try clear hfz8_1
  try clear hfz8_2
  try clear hfz8_3
  try clear hfz8_4
  try clear hfz8_5
  try clear hfz8_6
  try clear hfz8_7
  try clear hfz9_0
  try clear hfz9_1
  try clear hfz9_2
  try clear hfz9_3
  try clear hfz9_4
  try clear hfz9_5
  try clear hfz9_6
  try clear hfz9_7
  obtain ⟨kq, x21_1, rfl, HA, HJ1, HO_3, BK351, HB⟩ := hcut
  cases kq with
  | zero => exact absurd HA.out (by simp [impl_Reads.j0])
  | succ kj1 =>
   have H := HA.out
   clear HA
   simp only [impl_Reads.j0] at H
   have HC10 := Aside0.mk H
   clear H
   go_upto_if 21 with (fail)
   go_cut [4] (fun v4 wc => ∃ (kq : Nat) (x4_9 : Int), v4 = .int .i64 x4_9 ∧ Aside0 (impl_Reads.j1 kq ([] : List Int) x4_9 a0_0 a0_1 a0_2 a0_3 a0_4 a0_5 a0_6 l0_7 = some r) ∧ Aside0 (kq ≤ kj1) ∧ Aside0 (Kd.R (Kd.int .i64) 2 wc w.heap.size (fun _ => True) (.slice none 0 0) ([] : List Int)) ∧ Aside0 (wc.heap[gb351]? = some (.cells #[.int .i64 a0_0, .int .i64 a0_1, .int .i64 a0_2, .int .i64 a0_3, .int .i64 a0_4, .int .i64 a0_5, .string a0_6, (.slice A0_7 l0_7.length c0_7)] 87 (0, 0))) ∧ Aside0 (Below w.heap.size w wc))
   case first =>
    have H := HC10.out
    clear HC10
    by_cases c11 : x21_1 = true
    · subst c11
      have H1 : (impl_Reads.j1 kj1 ([] : List Int) (-1) a0_0 a0_1 a0_2 a0_3 a0_4 a0_5 a0_6 l0_7) = some r := by rw [if_pos rfl] at H; exact H
      clear H
      have H := H1
      clear H1
      have H' := Aside0.mk H
      clear H
      go_wp2
      go_meet
      case rel => exact ⟨_, ((-1)), sz_, H', ⟨by have := HJ1.out; first | omega | exact Nat.le_refl _⟩, ⟨by (with_reducible repeat (first | apply Kd.R_alloc | apply Kd.R_drewN | apply Kd.R_drew)); exact HO_3.out⟩, ⟨ kz⟩, ⟨ bz⟩⟩
    · replace c11 := Bool.eq_false_iff.mpr c11
      subst c11
      have H1 : (impl_Reads.j1 kj1 ([] : List Int) a0_4 a0_0 a0_1 a0_2 a0_3 a0_4 a0_5 a0_6 l0_7) = some r := by rw [if_neg (show ¬ (false = true) by decide)] at H; exact H
      clear H
      have H := H1
      clear H1
      have H' := Aside0.mk H
      clear H
      go_wp2
      go_meet
      case rel => exact ⟨_, (a0_4), sz_, H', ⟨by have := HJ1.out; first | omega | exact Nat.le_refl _⟩, ⟨by (with_reducible repeat (first | apply Kd.R_alloc | apply Kd.R_drewN | apply Kd.R_drew)); exact HO_3.out⟩, ⟨ kz⟩, ⟨ bz⟩⟩
   case rest =>
    clear HC10
    try clear c1
    try clear p2
    try clear c5
    try clear c5b0
    try clear c5b1
    try clear c6
    try clear c7
    try clear c7b0
    try clear c7b1
    try clear c11
    try clear hcz4_0
    try clear hcz4_1
    try clear hcz4_2
    try clear hcz4_3
    try clear hcz4_4
    try clear hcz4_5
    try clear hcz4_6
    try clear hcz4_7
    try clear hcz6_0
    try clear hcz6_1
    try clear hcz6_2
    try clear hcz6_3
    try clear hcz6_4
    try clear hcz6_5
    try clear hcz6_6
    try clear hcz6_7
    try clear hcz8_0
    try clear hcz8_1
    try clear hcz8_2
    try clear hcz8_3
    try clear hcz8_4
    try clear hcz8_5
    try clear hcz8_6
    try clear hcz8_7
    try clear hcz9_0
    try clear hcz9_1
    try clear hcz9_2
    try clear hcz9_3
    try clear hcz9_4
    try clear hcz9_5
    try clear hcz9_6
    try clear hcz9_7
    try clear hfz4_0
    try clear hfz4_1
    try clear hfz4_2
    try clear hfz4_3
    try clear hfz4_4
    try clear hfz4_5
    try clear hfz4_6
    try clear hfz4_7
    try clear hfz6_0
    try clear hfz6_1
    try clear hfz6_2
    try clear hfz6_3
    try clear hfz6_4
    try clear hfz6_5
    try clear hfz6_6
    try clear hfz6_7
    try clear hfz8_0
    try clear hfz8_1
    try clear hfz8_2
    try clear hfz8_3
    try clear hfz8_4
    try clear hfz8_5
    try clear hfz8_6
    try clear hfz8_7
    try clear hfz9_0
    try clear hfz9_1
    try clear hfz9_2
    try clear hfz9_3
    try clear hfz9_4
    try clear hfz9_5
    try clear hfz9_6
    try clear hfz9_7
    try clear p2
    obtain ⟨kq, x4_9, rfl, HA, HJ9, HO_3, BK351, HB⟩ := hcut
    cases kq with
    | zero => exact absurd HA.out (by simp [impl_Reads.j1])
    | succ kj9 =>
     have H := HA.out
     clear HA
     simp only [impl_Reads.j1] at H
     obtain ⟨y352, hy352⟩ : ∃ y_ : List Int, y_ = (([a0_2, a0_3, x4_9] : List Int)) := ⟨_, rfl⟩
     replace H : (if y352.length + l0_7.length < 17592186044416 then ((some (y352 ++ l0_7 : List Int)).bind fun y355 => (impl_Reads.l0 kj9 ([] : List Int) y355 (y355.length : Int) 0)) else (none)) = some r := by first | (rw [hy352]; with_reducible exact H) | (have H2_ := (Option.bind_some _ _).symm.trans H; rw [hy352]; with_reducible exact H2_) | (have H2_ := (Option.bind_some _ _).symm.trans H; with_reducible exact H2_) | with_reducible exact H | (rw [hy352]; exact H) | exact H
     have Ny352 := Aside0.mk hy352
     clear hy352
     by_cases c12 : y352.length + l0_7.length < 17592186044416
     · rw [if_pos c12] at H
       have LMc12 := Aside0.mk c12
       clear c12
       obtain ⟨y355, hy355⟩ : ∃ y_ : List Int, y_ = (y352 ++ l0_7) := ⟨_, rfl⟩
       replace H : (impl_Reads.l0 kj9 ([] : List Int) y355 (y355.length : Int) 0) = some r := by first | (rw [hy355]; with_reducible exact H) | (have H2_ := (Option.bind_some _ _).symm.trans H; rw [hy355]; with_reducible exact H2_) | (have H2_ := (Option.bind_some _ _).symm.trans H; with_reducible exact H2_) | with_reducible exact H | (rw [hy355]; exact H) | exact H
       have Ny355 := Aside0.mk hy355
       clear hy355
       have H' := Aside0.mk H
       clear H
       have hcz13_0 : wc.cell? ⟨gb351, 0, none⟩ = some (.int .i64 a0_0) := (blk_cell BK351.out 0).trans rfl
       have hcz13_1 : wc.cell? ⟨gb351, 1, none⟩ = some (.int .i64 a0_1) := (blk_cell BK351.out 1).trans rfl
       have hcz13_2 : wc.cell? ⟨gb351, 2, none⟩ = some (.int .i64 a0_2) := (blk_cell BK351.out 2).trans rfl
       have hcz13_3 : wc.cell? ⟨gb351, 3, none⟩ = some (.int .i64 a0_3) := (blk_cell BK351.out 3).trans rfl
       have hcz13_4 : wc.cell? ⟨gb351, 4, none⟩ = some (.int .i64 a0_4) := (blk_cell BK351.out 4).trans rfl
       have hcz13_5 : wc.cell? ⟨gb351, 5, none⟩ = some (.int .i64 a0_5) := (blk_cell BK351.out 5).trans rfl
       have hcz13_6 : wc.cell? ⟨gb351, 6, none⟩ = some (.string a0_6) := (blk_cell BK351.out 6).trans rfl
       have hcz13_7 : wc.cell? ⟨gb351, 7, none⟩ = some (.slice A0_7 l0_7.length c0_7) := (blk_cell BK351.out 7).trans rfl
       have hfz13_0 := blk_frozen BK351.out 0
       have hfz13_1 := blk_frozen BK351.out 1
       have hfz13_2 := blk_frozen BK351.out 2
       have hfz13_3 := blk_frozen BK351.out 3
       have hfz13_4 := blk_frozen BK351.out 4
       have hfz13_5 := blk_frozen BK351.out 5
       have hfz13_6 := blk_frozen BK351.out 6
       have hfz13_7 := blk_frozen BK351.out 7
       go_wp2_with (first | ((with_reducible refine gate_dst (N := 27) rfl ?_); refine Kd.R_lit (Kd.int .i64) _ 2 ?hg (N := 27) ?hd (xs := ([a0_2, a0_3, x4_9] : List Int)) (inner := [.int .i64 a0_2, .int .i64 a0_3, .int .i64 x4_9]) (ok := fun _ => True) (okp := fun _ => True) ?hr ?hp (fun _ hk => hk) trivial (Below.refl _ _) (Nat.le_refl _) (by simp) ?_; (case hd => rfl); (case hg => rfl); (case hr => first | (go_simp; done) | (go_simp; rfl)); (case hp => exact (Reps.one (show Kd.M (Kd.int .i64) _ _ _ a0_2 [.int .i64 a0_2] from rfl) (Reps.one (show Kd.M (Kd.int .i64) _ _ _ a0_3 [.int .i64 a0_3] from rfl) (Reps.one (show Kd.M (Kd.int .i64) _ _ _ x4_9 [.int .i64 x4_9] from rfl) (Reps.none _ _))))); intro v353 w14 ho15 hb hg_ hnew_; clear hg_ hnew_; (first | rw [← Ny352.out] at ho15 | (simp only [Int.reduceToNat] at ho15; rw [← Ny352.out] at ho15)); have n0_ := Aside0.mk (Kd.R_elder' (rz HO_3.out) (Kd.R_base ho15) hb); have n1_ := Aside0.mk (Kd.R_lower (Kd.R_new' ho15 (Kd.R_lt (rz HO_3.out))) (below_size bz)); have n2_ := Aside0.mk (blk_below (g := gb351) (o := .cells #[.int .i64 a0_0, .int .i64 a0_1, .int .i64 a0_2, .int .i64 a0_3, .int .i64 a0_4, .int .i64 a0_5, .string a0_6, .slice A0_7 l0_7.length c0_7] 87 (0, 0)) kz hb); have n3_ := Aside0.mk (below_step bz hb); clear HO_3; clear BK351; clear HB; have HO_3 := n0_; have HO354 := n1_; have BK351 := n2_; have HB := n3_; clear n0_ n1_ n2_ n3_; clear hb ho15; have hcz16_0 : w14.cell? ⟨gb351, 0, none⟩ = some (.int .i64 a0_0) := (blk_cell BK351.out 0).trans rfl; have hcz16_1 : w14.cell? ⟨gb351, 1, none⟩ = some (.int .i64 a0_1) := (blk_cell BK351.out 1).trans rfl; have hcz16_2 : w14.cell? ⟨gb351, 2, none⟩ = some (.int .i64 a0_2) := (blk_cell BK351.out 2).trans rfl; have hcz16_3 : w14.cell? ⟨gb351, 3, none⟩ = some (.int .i64 a0_3) := (blk_cell BK351.out 3).trans rfl; have hcz16_4 : w14.cell? ⟨gb351, 4, none⟩ = some (.int .i64 a0_4) := (blk_cell BK351.out 4).trans rfl; have hcz16_5 : w14.cell? ⟨gb351, 5, none⟩ = some (.int .i64 a0_5) := (blk_cell BK351.out 5).trans rfl; have hcz16_6 : w14.cell? ⟨gb351, 6, none⟩ = some (.string a0_6) := (blk_cell BK351.out 6).trans rfl; have hcz16_7 : w14.cell? ⟨gb351, 7, none⟩ = some (.slice A0_7 l0_7.length c0_7) := (blk_cell BK351.out 7).trans rfl; have hfz16_0 := blk_frozen BK351.out 0; have hfz16_1 := blk_frozen BK351.out 1; have hfz16_2 := blk_frozen BK351.out 2; have hfz16_3 := blk_frozen BK351.out 3; have hfz16_4 := blk_frozen BK351.out 4; have hfz16_5 := blk_frozen BK351.out 5; have hfz16_6 := blk_frozen BK351.out 6; have hfz16_7 := blk_frozen BK351.out 7) | ((with_reducible refine gate_builtin (b := .append) (xs := #[.tmp 27, .tmp 29]) rfl ?_); at_builtin; refine Kd.R_append_rows (Kd.int .i64) (w0 := w) w.heap.size rfl (.tmp 27) (.tmp 29) 22 2 (.int .i64 0) 8 rfl Try.underlying22 info2 rfl (by decide) (by omega) v353 y352 l0_7 _ _ _ (fun k_ => some k_ ≠ (.slice none 0 0 : Value).ownBlock) (fun _ => False) rfl rfl ?aO ?aR (fun _ _ h => h) (fun _ h => h.elim) ?aF ?aB ?aS ?aL ?_; (case aR => exact cz HR0_7.out); (case aB => exact bz); (case aF => exact (fun k_ hk => Kd.fresh' (Kd.R_lt (rz HO_3.out)) k_ hk)); (case aO => exact (by (with_reducible repeat (first | apply Kd.R_alloc | apply Kd.R_drewN | apply Kd.R_drew)); exact Kd.R_mono HO354.out (fun _ hk => hk.2))); (case aS => exact (below_size bz)); (case aL => have := LMc12.out; omega); intro v356 w17 ho hb hg hat; rw [← Ny355.out] at ho; have n0_ := Aside0.mk (Kd.R_after (ok := (fun _ => True)) (rz HO_3.out) hg hat); have n1_ := Aside0.mk (blk_grown (g := gb351) (o := .cells #[.int .i64 a0_0, .int .i64 a0_1, .int .i64 a0_2, .int .i64 a0_3, .int .i64 a0_4, .int .i64 a0_5, .string a0_6, .slice A0_7 l0_7.length c0_7] 87 (0, 0)) kz hg (Kd.R_ne HO354.out BK351.out (by decide))); have n2_ := Aside0.mk (hb); have n3_ := Aside0.mk (ho); clear HO_3; clear BK351; clear HB; clear HO354; have HO_3 := n0_; have BK351 := n1_; have HB := n2_; have HO357 := n3_; clear n0_ n1_ n2_ n3_; clear ho hb hg hat; obtain ⟨Ao18, co18, eo18⟩ := Kd.R_slice HO357.out; subst eo18))
       go_loopg [3, 32] kj9 (fun kq v3 v32 w' => ∃ (x3_3 : List Int) (x32_3 : Int), v32 = .int .i64 x32_3 ∧ Aside0 (impl_Reads.l0 kq x3_3 y355 (y355.length : Int) x32_3 = some r) ∧ Aside0 (kq ≤ kj9) ∧ Aside0 (Kd.R (Kd.int .i64) 2 w' w.heap.size (fun k_ => some k_ ≠ ((.slice Ao18 y355.length co18) : Value).ownBlock) v3 x3_3) ∧ Aside0 (Kd.R (Kd.int .i64) 2 w' w.heap.size (fun k_ => some k_ ≠ (v3 : Value).ownBlock) (.slice Ao18 y355.length co18) y355) ∧ Aside0 (w'.heap[gb351]? = some (.cells #[.int .i64 a0_0, .int .i64 a0_1, .int .i64 a0_2, .int .i64 a0_3, .int .i64 a0_4, .int .i64 a0_5, .string a0_6, (.slice A0_7 l0_7.length c0_7)] 87 (0, 0))) ∧ Aside0 (Below w.heap.size w w'))
       case atStart => exact ⟨(([] : List Int)), (0), sz_, H', ⟨Nat.le_refl _⟩, ⟨by (with_reducible repeat (first | apply Kd.R_alloc | apply Kd.R_drewN | apply Kd.R_drew)); exact Kd.R_mono HO_3.out (fun _ hk => hk.2)⟩, ⟨by (with_reducible repeat (first | apply Kd.R_alloc | apply Kd.R_drewN | apply Kd.R_drew)); exact HO357.out⟩, ⟨ kz⟩, ⟨ bz⟩⟩
       case round =>
        clear H'
        try clear c1
        try clear p2
        try clear c5
        try clear c5b0
        try clear c5b1
        try clear c6
        try clear c7
        try clear c7b0
        try clear c7b1
        try clear c11
        try clear c12
        try clear hcz13_0
        try clear hcz13_1
        try clear hcz13_2
        try clear hcz13_3
        try clear hcz13_4
        try clear hcz13_5
        try clear hcz13_6
        try clear hcz13_7
        try clear hcz16_0
        try clear hcz16_1
        try clear hcz16_2
        try clear hcz16_3
        try clear hcz16_4
        try clear hcz16_5
        try clear hcz16_6
        try clear hcz16_7
        try clear hcz4_0
        try clear hcz4_1
        try clear hcz4_2
        try clear hcz4_3
        try clear hcz4_4
        try clear hcz4_5
        try clear hcz4_6
        try clear hcz4_7
        try clear hcz6_0
        try clear hcz6_1
        try clear hcz6_2
        try clear hcz6_3
        try clear hcz6_4
        try clear hcz6_5
        try clear hcz6_6
        try clear hcz6_7
        try clear hcz8_0
        try clear hcz8_1
        try clear hcz8_2
        try clear hcz8_3
        try clear hcz8_4
        try clear hcz8_5
        try clear hcz8_6
        try clear hcz8_7
        try clear hcz9_0
        try clear hcz9_1
        try clear hcz9_2
        try clear hcz9_3
        try clear hcz9_4
        try clear hcz9_5
        try clear hcz9_6
        try clear hcz9_7
        try clear hfz13_0
        try clear hfz13_1
        try clear hfz13_2
        try clear hfz13_3
        try clear hfz13_4
        try clear hfz13_5
        try clear hfz13_6
        try clear hfz13_7
        try clear hfz16_0
        try clear hfz16_1
        try clear hfz16_2
        try clear hfz16_3
        try clear hfz16_4
        try clear hfz16_5
        try clear hfz16_6
        try clear hfz16_7
        try clear hfz4_0
        try clear hfz4_1
        try clear hfz4_2
        try clear hfz4_3
        try clear hfz4_4
        try clear hfz4_5
        try clear hfz4_6
        try clear hfz4_7
        try clear hfz6_0
        try clear hfz6_1
        try clear hfz6_2
        try clear hfz6_3
        try clear hfz6_4
        try clear hfz6_5
        try clear hfz6_6
        try clear hfz6_7
        try clear hfz8_0
        try clear hfz8_1
        try clear hfz8_2
        try clear hfz8_3
        try clear hfz8_4
        try clear hfz8_5
        try clear hfz8_6
        try clear hfz8_7
        try clear hfz9_0
        try clear hfz9_1
        try clear hfz9_2
        try clear hfz9_3
        try clear hfz9_4
        try clear hfz9_5
        try clear hfz9_6
        try clear hfz9_7
        try clear p2
        obtain ⟨x3_3, x32_3, rfl, HA, HK3, HO_3, HO_30, BK351, HB⟩ := hrel
        cases gk with
        | zero => exact absurd HA.out (by simp [impl_Reads.l0])
        | succ k3 =>
         have H := HA.out
         clear HA
         simp only [impl_Reads.l0] at H
         by_cases c19 : x32_3 < (y355.length : Int)
         · rw [if_pos c19] at H
           have c19b0 : decide (x32_3 < (y355.length : Int)) = true := decide_eq_true c19
           clear c19
           by_cases c20 : 0 ≤ x32_3
           · rw [if_pos c20] at H
             have c20b0 : decide (0 ≤ x32_3) = true := decide_eq_true c20
             clear c20
             by_cases c21 : x32_3 < (y355.length : Int)
             · rw [if_pos c21] at H
               have c21b0 : decide (x32_3 < (y355.length : Int)) = true := decide_eq_true c21
               clear c21
               by_cases c22 : (rd y355 x32_3) ≥ 0
               · rw [if_pos c22] at H
                 have c22b0 : decide (0 ≤ (rd y355 x32_3)) = true := decide_eq_true c22
                 clear c22
                 by_cases c23 : x3_3.length < 17592186044416
                 · rw [if_pos c23] at H
                   have LMc23 := Aside0.mk c23
                   clear c23
                   obtain ⟨y359, hy359⟩ : ∃ y_ : List Int, y_ = (x3_3 ++ [rd y355 x32_3]) := ⟨_, rfl⟩
                   replace H : (impl_Reads.l0 k3 y359 y355 (y355.length : Int) (wrap64 (x32_3 + 1))) = some r := by first | (rw [hy359]; with_reducible exact H) | (have H2_ := (Option.bind_some _ _).symm.trans H; rw [hy359]; with_reducible exact H2_) | (have H2_ := (Option.bind_some _ _).symm.trans H; with_reducible exact H2_) | with_reducible exact H | (rw [hy359]; exact H) | exact H
                   have Ny359 := Aside0.mk hy359
                   clear hy359
                   have H' := Aside0.mk H
                   clear H
                   have p358 : 0 ≤ (x32_3 : Int) := of_decide_eq_true az
                   have q358 : x32_3 < (y355.length : Int) := of_decide_eq_true az
                   obtain ⟨ad358, e358, hx358_0⟩ := Kd.at_int (Kd.R_reads' HO_30.out).2.2 x32_3 p358 q358
                   cases e358
                   replace p358 := eq_true p358
                   replace q358 := eq_true q358
                   go_wp2_with (first | ((with_reducible refine gate_builtin (b := .append) (xs := #[.tmp 38, .tmp 40]) rfl ?_); at_builtin; refine Kd.R_append (Kd.int .i64) (w0 := w) w.heap.size rfl (.tmp 38) (.tmp 40) 22 2 (.int .i64 0) 8 rfl Try.underlying22 info2 rfl (by decide) (by omega) u3 x3_3 (rd y355 x32_3) [.int .i64 (rd y355 x32_3)] (fun k_ => some k_ ≠ (.slice (some ad358) y355.length co18 : Value).ownBlock) (fun _ => False) rfl rfl ?aP (fun _ hk => hk.elim) ?aF ?aO ?aB ?aS ?aL ?_; (case aP => exact rfl); (case aB => exact bz); (case aF => exact (fun k_ hk => Kd.fresh' (Kd.R_lt (rz HO_30.out)) k_ hk)); (case aO => exact (rz HO_3.out)); (case aS => exact (below_size bz)); (case aL => have := LMc23.out; omega); intro v360 w24 ho hb hg hat; rw [← Ny359.out] at ho; have n0_ := Aside0.mk (Kd.R_after (ok := (fun _ => True)) (by (with_reducible repeat (first | apply Kd.R_alloc | apply Kd.R_drewN | apply Kd.R_drew)); exact Kd.R_mono HO_30.out (fun _ hk => ⟨trivial, hk⟩)) hg hat); have n1_ := Aside0.mk (blk_grown (g := gb351) (o := .cells #[.int .i64 a0_0, .int .i64 a0_1, .int .i64 a0_2, .int .i64 a0_3, .int .i64 a0_4, .int .i64 a0_5, .string a0_6, .slice A0_7 l0_7.length c0_7] 87 (0, 0)) kz hg (Kd.R_ne HO_3.out BK351.out (by decide))); have n2_ := Aside0.mk (hb); have n3_ := Aside0.mk (ho); clear HO_30; clear BK351; clear HB; clear HO_3; have HO_30 := n0_; have BK351 := n1_; have HB := n2_; have HO361 := n3_; clear n0_ n1_ n2_ n3_; clear ho hb hg hat))
                   go_roundg k3
                   case measure => have := HJ1.out; have := HJ9.out; have := HK3.out; omega
                   case rel => exact ⟨(y359), (wrap64 (x32_3 + 1)), sz_, H', ⟨by have := HJ1.out; have := HJ9.out; have := HK3.out; omega⟩, ⟨by (with_reducible repeat (first | apply Kd.R_alloc | apply Kd.R_drewN | apply Kd.R_drew)); exact HO361.out⟩, ⟨by (with_reducible repeat (first | apply Kd.R_alloc | apply Kd.R_drewN | apply Kd.R_drew)); exact Kd.R_mono HO_30.out (fun _ hk => hk.2)⟩, ⟨ kz⟩, ⟨ bz⟩⟩
                 · rw [if_neg c23] at H
                   exact absurd H (by simp)
               · rw [if_neg c22] at H
                 have c22b0 : decide (0 ≤ (rd y355 x32_3)) = false := decide_eq_false c22
                 clear c22
                 have H' := Aside0.mk H
                 clear H
                 have p358 : 0 ≤ (x32_3 : Int) := of_decide_eq_true az
                 have q358 : x32_3 < (y355.length : Int) := of_decide_eq_true az
                 obtain ⟨ad358, e358, hx358_0⟩ := Kd.at_int (Kd.R_reads' HO_30.out).2.2 x32_3 p358 q358
                 cases e358
                 replace p358 := eq_true p358
                 replace q358 := eq_true q358
                 go_wp2
                 go_roundg k3
                 case measure => have := HJ1.out; have := HJ9.out; have := HK3.out; omega
                 case rel => exact ⟨(x3_3), (wrap64 (x32_3 + 1)), sz_, H', ⟨by have := HJ1.out; have := HJ9.out; have := HK3.out; omega⟩, ⟨by (with_reducible repeat (first | apply Kd.R_alloc | apply Kd.R_drewN | apply Kd.R_drew)); exact HO_3.out⟩, ⟨by (with_reducible repeat (first | apply Kd.R_alloc | apply Kd.R_drewN | apply Kd.R_drew)); exact HO_30.out⟩, ⟨ kz⟩, ⟨ bz⟩⟩
             · rw [if_neg c21] at H
               exact absurd H (by simp)
           · rw [if_neg c20] at H
             exact absurd H (by simp)
         · rw [if_neg c19] at H
           have c19b0 : decide (x32_3 < (y355.length : Int)) = false := decide_eq_false c19
           clear c19
           obtain rfl := Option.some.inj H
           go_wp2
           go_ret
           exact ⟨_, by first | rfl | (simp [errW_none, errW_some] <;> rfl) | (simp [*, errW_none, errW_some] <;> rfl), by (with_reducible repeat (first | apply Kd.R_alloc | apply Kd.R_drewN | apply Kd.R_drew)); exact Kd.R_mono HO_3.out (fun _ hk => trivial), bz⟩
     · rw [if_neg c12] at H
       exact absurd H (by simp)

set_option linter.unusedVariables false
set_option linter.unusedSimpArgs false

def impl_stops.f (a0 : Int) : Option (Bool) := if a0 = 23 then (some true) else (if a0 = 62 then (some true) else (some (a0 == 29)))
set_option maxHeartbeats 8000000 in
set_option maxRecDepth 100000 in
theorem impl_stops.calls (a0 : Int) (r : Bool) (w : World) (h : impl_stops.f a0 = some r) :
 Calls Try.prog 130 #[.int .i64 a0] w fun e w' => e = .returned (.bool r) ∧ Drawn0 w w' := by
 have H : (if a0 = 23 then (some true) else (if a0 = 62 then (some true) else (some (a0 == 29)))) = some r := h
 clear h
 by_cases c2 : a0 = 23
 · rw [if_pos c2] at H
   have c2b0 : (a0 == 23) = true := beq_iff_eq.mpr c2
   have c2b1 : (a0 != 23) = false := bne_eq_false_iff_eq.mpr c2
   clear c2
   obtain rfl := Option.some.inj H
   go_enter Try.func130, Try.ntmps130
   go_wp2
   go_ret
   exact ⟨by first | rfl | (simp; done) | (simp [*]; done), by repeat (first | exact Drawn0.refl _ | apply Drawn0.step)⟩
 · rw [if_neg c2] at H
   have c2b0 : (a0 == 23) = false := beq_eq_false_iff_ne.mpr c2
   have c2b1 : (a0 != 23) = true := bne_iff_ne.mpr c2
   by_cases c3 : a0 = 62
   · rw [if_pos c3] at H
     have c3b0 : (a0 == 62) = true := beq_iff_eq.mpr c3
     have c3b1 : (a0 != 62) = false := bne_eq_false_iff_eq.mpr c3
     clear c3
     obtain rfl := Option.some.inj H
     go_enter Try.func130, Try.ntmps130
     go_wp2
     go_ret
     exact ⟨by first | rfl | (simp; done) | (simp [*]; done), by repeat (first | exact Drawn0.refl _ | apply Drawn0.step)⟩
   · rw [if_neg c3] at H
     have c3b0 : (a0 == 62) = false := beq_eq_false_iff_ne.mpr c3
     have c3b1 : (a0 != 62) = true := bne_iff_ne.mpr c3
     obtain rfl := Option.some.inj H
     go_enter Try.func130, Try.ntmps130
     go_wp2
     go_ret
     exact ⟨by first | rfl | (simp; done) | (simp [*]; done), by repeat (first | exact Drawn0.refl _ | apply Drawn0.step)⟩

set_option linter.unusedVariables false
set_option linter.unusedSimpArgs false

def impl_jumps.f (a0 : Int) : Option (Bool) := if a0 = 23 then (some true) else (if a0 = 24 then (some true) else (some (a0 == 25)))
set_option maxHeartbeats 8000000 in
set_option maxRecDepth 100000 in
theorem impl_jumps.calls (a0 : Int) (r : Bool) (w : World) (h : impl_jumps.f a0 = some r) :
 Calls Try.prog 76 #[.int .i64 a0] w fun e w' => e = .returned (.bool r) ∧ Drawn0 w w' := by
 have H : (if a0 = 23 then (some true) else (if a0 = 24 then (some true) else (some (a0 == 25)))) = some r := h
 clear h
 by_cases c2 : a0 = 23
 · rw [if_pos c2] at H
   have c2b0 : (a0 == 23) = true := beq_iff_eq.mpr c2
   have c2b1 : (a0 != 23) = false := bne_eq_false_iff_eq.mpr c2
   clear c2
   obtain rfl := Option.some.inj H
   go_enter Try.func76, Try.ntmps76
   go_wp2
   go_ret
   exact ⟨by first | rfl | (simp; done) | (simp [*]; done), by repeat (first | exact Drawn0.refl _ | apply Drawn0.step)⟩
 · rw [if_neg c2] at H
   have c2b0 : (a0 == 23) = false := beq_eq_false_iff_ne.mpr c2
   have c2b1 : (a0 != 23) = true := bne_iff_ne.mpr c2
   by_cases c3 : a0 = 24
   · rw [if_pos c3] at H
     have c3b0 : (a0 == 24) = true := beq_iff_eq.mpr c3
     have c3b1 : (a0 != 24) = false := bne_eq_false_iff_eq.mpr c3
     clear c3
     obtain rfl := Option.some.inj H
     go_enter Try.func76, Try.ntmps76
     go_wp2
     go_ret
     exact ⟨by first | rfl | (simp; done) | (simp [*]; done), by repeat (first | exact Drawn0.refl _ | apply Drawn0.step)⟩
   · rw [if_neg c3] at H
     have c3b0 : (a0 == 24) = false := beq_eq_false_iff_ne.mpr c3
     have c3b1 : (a0 != 24) = true := bne_iff_ne.mpr c3
     obtain rfl := Option.some.inj H
     go_enter Try.func76, Try.ntmps76
     go_wp2
     go_ret
     exact ⟨by first | rfl | (simp; done) | (simp [*]; done), by repeat (first | exact Drawn0.refl _ | apply Drawn0.step)⟩

end Go.Proofs.Ythegbhfoleiegaa.All

/- Maps of bools that a call makes: as sets of numbers. -/
namespace Go.Proofs.Ythegbhfoleiegaa.All
open Go.RowKit Go.Proofs.YthegbhfoleiegaaW.PrintWords Go.Proofs.YthegbhfoleiegaaW.PrintLast Go.Proofs.YthegbhfoleiegaaW.PrintMore
set_option linter.unusedVariables false
set_option linter.unusedSimpArgs false
open Go.Maps (Keyed)
theorem plainElem_bool_inv {H : Type} {P : Program} {e : TypeId} (he : P.underlying e = some .bool) {v : Value} {z : DataW H × List MemPlace} (h : plainElem P e v = some z) : ∃ x, v = .bool x ∧ z = (.lit (.bool x), []) := by
  unfold plainElem at h
  rw [he] at h
  cases v <;> simp at h
  exact ⟨_, rfl, h.symm⟩
/-- Block b is a map of at most n entries from int64 (type k) to bool (type e); S is what is told of a number. -/
def IsSet (P : Program) (k e : TypeId) (w : World) (b n : Nat) (S : Int → Bool) : Prop :=
  ∃ D : DataW Unit, w.ownsMap P k (plainElem P e) b n D ∧ ∀ x, (Lit.int .i64 x).wf = true → D.atKey (.int .i64 x) (.lit (.bool false)) = .lit (.bool (S x))
section
variable {P : Program} {k e : TypeId} {w w1 : World} {b n : Nat} {S : Int → Bool}
theorem IsSet.made (w : World) (P : Program) (k e : TypeId) : IsSet P k e (w.alloc (.map #[] 0)) w.heap.size 0 (fun _ => false) :=
  ⟨.map [], World.ownsMap_made w P k _, fun x _ => by simp [DataW.atKey]⟩
theorem IsSet.kept {row : Option Nat} (h : IsSet P k e w b n S) (hg : w.grownBy w1 row) (hne : some b ≠ row) : IsSet P k e w1 b n S := by
  obtain ⟨D, h1, h2⟩ := h
  exact ⟨D, h1.kept hg hne, h2⟩
theorem IsSet.below (h : IsSet P k e w b n S) (hb : Below w.heap.size w w1) : IsSet P k e w1 b n S := h.kept (grown_of_below hb none) (by simp)
theorem IsSet.alloc (h : IsSet P k e w b n S) (o : Obj) : IsSet P k e (w.alloc o) b n S := h.below (below_alloc (Below.refl _ _) o)
theorem IsSet.drewN (h : IsSet P k e w b n S) (m : Nat) : IsSet P k e (w.drewN m) b n S := h
theorem IsSet.drew (h : IsSet P k e w b n S) : IsSet P k e w.drew b n S := h
theorem IsSet.lt (h : IsSet P k e w b n S) : b < w.heap.size := by obtain ⟨D, h1, _⟩ := h; exact h1.lt
theorem IsSet.mono (h : IsSet P k e w b n S) {n' : Nat} (hn : n ≤ n') : IsSet P k e w b n' S := by obtain ⟨D, h1, h2⟩ := h; exact ⟨D, h1.mono hn, h2⟩
theorem IsSet.congr {S' : Int → Bool} (h : IsSet P k e w b n S) (he : ∀ x, S' x = S x) : IsSet P k e w b n S' := by obtain ⟨D, h1, h2⟩ := h; exact ⟨D, h1, fun x hx => by rw [he]; exact h2 x hx⟩
theorem IsSet.put {t : TypeId} (h : IsSet P k e w b n S) (hk : P.underlying k = some (.int .i64)) (ht : P.underlying t = some (.map k e)) (he : P.underlying e = some .bool) (hn : n < maxLen) {x : Int} (hx : (Lit.int .i64 x).wf = true) (v : Bool) :
    ∃ w', (Instr.mapUpdate t (.map (some b)) (.int .i64 x) (.bool v)).run P w = .ok () w' ∧ IsSet P k e w' b (n + 1) (fun y => if y = x then v else S y) ∧ w.grownBy w' (some b) := by
  obtain ⟨D, h1, h2⟩ := h
  have hm := h1.isMap
  obtain ⟨w', hrun, h3, hg⟩ := h1.update (Maps.int_keyed hk) ht hn (Maps.keyOf_int_mk hk hx) (plainElem_bool he v)
  refine ⟨w', hrun, ⟨_, h3, fun y hy => ?_⟩, hg⟩
  by_cases hxy : y = x
  · subst hxy
    rw [Maps.atKey_put_same hm (by simp [WideAt.IsKeyLit])]
    simp
  · rw [Maps.atKey_put_other (by simpa using hxy), h2 y hy]
    simp [hxy]
end
section
variable {P : Program} {ops : Array Oper} {rest : List Oper} {o : Oper} {a : Act} {Q : Exit → Act → World → Prop} {w : World}
end
end Go.Proofs.Ythegbhfoleiegaa.All

/- Maps of true alone, with whole numbers as keys, that a call makes: as lists of keys; and the loops over them. -/
namespace Go.Proofs.Ythegbhfoleiegaa.All
open Go.RowKit Go.Proofs.YthegbhfoleiegaaW.PrintWords Go.Proofs.YthegbhfoleiegaaW.PrintLast Go.Proofs.YthegbhfoleiegaaW.PrintMore
set_option linter.unusedVariables false
set_option linter.unusedSimpArgs false
open Go.Maps (Keyed)
/-- The map reads as the keys ks, each with true. -/
def KeysD (D : DataW Unit) (ks : List Int) : Prop := Maps.size D = ks.length ∧ ks.Nodup ∧ (∀ x, Maps.has D (.int .i64 x) = decide (x ∈ ks)) ∧ (∀ x ∈ ks, ∀ z, D.atKey (.int .i64 x) z = .lit (.bool true)) ∧ ∀ x ∈ ks, (Lit.int .i64 x).wf = true
def IsKeys (P : Program) (k e : TypeId) (w : World) (b : Nat) (ks : List Int) : Prop := ∃ D : DataW Unit, w.ownsMap P k (plainElem P e) b ks.length D ∧ KeysD D ks
/-- The loop over map b (iterator r) is under way; the keys lf are still to come. -/
def KRange (P : Program) (k e : TypeId) (w : World) (b r : Nat) (ks lf : List Int) : Prop :=
  ∃ (D : DataW Unit) (left : Lit → Bool) (cnt : Nat), w.ranges P k (plainElem P e) b r ks.length D left cnt ∧ KeysD D ks ∧ (∀ x, left (.int .i64 x) = decide (x ∈ lf))
def insK (ks : List Int) (x : Int) : List Int := if x ∈ ks then ks else ks ++ [x]
theorem insK_mem (ks : List Int) (x y : Int) : y ∈ insK ks x ↔ y ∈ ks ∨ y = x := by
  unfold insK; split
  · rename_i h; exact ⟨.inl, fun h' => h'.elim id (fun e => e ▸ h)⟩
  · simp
theorem insK_nodup {ks : List Int} (h : ks.Nodup) (x : Int) : (insK ks x).Nodup := by
  unfold insK; split
  · exact h
  · rename_i hn
    rw [List.nodup_append]
    exact ⟨h, by simp, fun a ha b hb => by rw [List.mem_singleton.1 hb]; rintro rfl; exact hn ha⟩
theorem insK_len (ks : List Int) (x : Int) : (insK ks x).length = if x ∈ ks then ks.length else ks.length + 1 := by unfold insK; split <;> simp
theorem insK_le (ks : List Int) (x : Int) : (insK ks x).length ≤ ks.length + 1 := by rw [insK_len]; split <;> omega
theorem int_sameKey (x y : Int) : (Lit.int .i64 y).sameKey (.int .i64 x) = decide (y = x) := by
  by_cases h : y = x
  · subst h; simp [Lit.sameKey]
  · rw [Maps.sameKey_ne (by intro e; exact h (by injection e)), decide_eq_false h]
theorem KeysD.perm {D : DataW Unit} {ks ks' : List Int} (h : KeysD D ks) (hp : ks.Perm ks') : KeysD D ks' :=
  ⟨h.1.trans hp.length_eq, hp.nodup_iff.1 h.2.1, fun x => by rw [h.2.2.1 x]; exact decide_eq_decide.2 hp.mem_iff, fun x hx => h.2.2.2.1 x (hp.mem_iff.2 hx), fun x hx => h.2.2.2.2 x (hp.mem_iff.2 hx)⟩
section
variable {P : Program} {k e : TypeId} {w w1 : World} {b r : Nat} {ks ks' lf : List Int}
theorem ownsMap_tight {R : Value → Option (DataW Unit × List MemPlace)} {n : Nat} {D : DataW Unit} (h : w.ownsMap P k R b n D) : w.ownsMap P k R b (Maps.size D) D := by
  obtain ⟨es, clock, hb, F, _, hD⟩ := h
  refine ⟨es, clock, hb, F, ?_, hD⟩
  rw [hD, Maps.size_eq, length_read]
  exact Nat.le_refl _
theorem IsKeys.nodup (h : IsKeys P k e w b ks) : ks.Nodup := by obtain ⟨_, _, h⟩ := h; exact h.2.1
theorem IsKeys.wf (h : IsKeys P k e w b ks) : ∀ x ∈ ks, (Lit.int .i64 x).wf = true := by obtain ⟨_, _, h⟩ := h; exact h.2.2.2.2
theorem IsKeys.perm (h : IsKeys P k e w b ks) (hp : ks.Perm ks') : IsKeys P k e w b ks' := by
  obtain ⟨D, h1, h2⟩ := h
  exact ⟨D, by rw [← hp.length_eq]; exact h1, h2.perm hp⟩
theorem IsKeys.same (h : IsKeys P k e w b ks) (hn : ks'.Nodup) (hm : ∀ x, x ∈ ks ↔ x ∈ ks') : IsKeys P k e w b ks' := h.perm ((List.perm_ext_iff_of_nodup h.nodup hn).2 hm)
theorem IsKeys.made (w : World) (P : Program) (k e : TypeId) : IsKeys P k e (w.alloc (.map #[] 0)) w.heap.size [] :=
  ⟨.map [], World.ownsMap_made w P k _, rfl, List.nodup_nil, (fun x => by simp [Maps.has_eq]), (fun x hx => by cases hx), (fun x hx => by cases hx)⟩
theorem IsKeys.kept {row : Option Nat} (h : IsKeys P k e w b ks) (hg : w.grownBy w1 row) (hne : some b ≠ row) : IsKeys P k e w1 b ks := by
  obtain ⟨D, h1, h2⟩ := h
  exact ⟨D, h1.kept hg hne, h2⟩
theorem IsKeys.below (h : IsKeys P k e w b ks) (hb : Below w.heap.size w w1) : IsKeys P k e w1 b ks := h.kept (grown_of_below hb none) (by simp)
theorem IsKeys.alloc (h : IsKeys P k e w b ks) (o : Obj) : IsKeys P k e (w.alloc o) b ks := h.below (below_alloc (Below.refl _ _) o)
theorem IsKeys.drewN (h : IsKeys P k e w b ks) (m : Nat) : IsKeys P k e (w.drewN m) b ks := h
theorem IsKeys.drew (h : IsKeys P k e w b ks) : IsKeys P k e w.drew b ks := h
theorem IsKeys.lt (h : IsKeys P k e w b ks) : b < w.heap.size := by obtain ⟨D, h1, _⟩ := h; exact h1.lt
theorem KRange.keys (h : KRange P k e w b r ks lf) : IsKeys P k e w b ks := by obtain ⟨D, _, _, h1, h2, _⟩ := h; exact ⟨D, h1.owns, h2⟩
theorem KRange.kept {row : Option Nat} (h : KRange P k e w b r ks lf) (hg : w.grownBy w1 row) (hb : some b ≠ row) (hr : some r ≠ row) : KRange P k e w1 b r ks lf := by
  obtain ⟨D, left, cnt, h1, h2, h3⟩ := h
  exact ⟨D, left, cnt, h1.kept hg hb hr, h2, h3⟩
theorem KRange.left_kept {row : Option Nat} (h : KRange P k e w b r ks lf) (hg : w.grownBy w1 row) (hb : some b ≠ row) (hr : some r ≠ row) : w1.rangeLeft b r = w.rangeLeft b r := by
  obtain ⟨D, left, cnt, h1, h2, h3⟩ := h
  rw [(h1.kept hg hb hr).left_eq, h1.left_eq]
theorem KRange.lt (h : KRange P k e w b r ks lf) : r < w.heap.size := by obtain ⟨D, _, _, h1, _⟩ := h; exact h1.lt
theorem KRange.ltb (h : KRange P k e w b r ks lf) : b < w.heap.size := h.keys.lt
end
section
variable {P : Program} {ops : Array Oper} {rest : List Oper} {o : Oper} {a : Act} {Q : Exit → Act → World → Prop} {w : World}
theorem wpList_range_keys (hg : o.guard = none) (m : Operand) (t : TypeId) (hop : o.op = Op.range t m) (k e : TypeId) (K : Keyed P k) (ht : P.underlying t = some (.map k e)) (b : Nat) (ks : List Int)
    (hm : a.eval m = .map (some b)) (h : IsKeys P k e w b ks)
    (hK : ∀ w', KRange P k e w' b w.heap.size ks ks → w.grownBy w' none → w'.heap.size = w.heap.size + 1 → wpList P ops Q rest (a.put o.dst (.pointer (some ⟨w.heap.size, 0, none⟩))) w') :
    wpList P ops Q (o :: rest) a w := by
  obtain ⟨D, h1, h2⟩ := h
  exact wpList_range_own w hg m t hop k e K ht _ b _ D hm h1 (fun w' hr hg hs => hK w' ⟨D, _, _, hr, h2, h2.2.2.1⟩ hg hs)
theorem IsKeys.range {P : Program} {k e : TypeId} {w : World} {b : Nat} {ks : List Int} (h : IsKeys P k e w b ks) (K : Keyed P k) {t : TypeId} (ht : P.underlying t = some (.map k e)) :
    ∃ w', (Instr.range t (.map (some b))).run P w = .ok (.pointer (some ⟨w.heap.size, 0, none⟩)) w' ∧ KRange P k e w' b w.heap.size ks ks ∧ w.grownBy w' none ∧ w'.heap.size = w.heap.size + 1 := by
  obtain ⟨D, h1, h2⟩ := h
  obtain ⟨w', hrun, r1, r2, r3⟩ := h1.range K ht
  exact ⟨w', hrun, ⟨D, _, _, r1, h2, h2.2.2.1⟩, r2, r3⟩
theorem wpList_next_keys (hg : o.guard = none) (it : Operand) (hop : o.op = Op.next it false) (k e : TypeId) (K : Keyed P k) (hk : P.underlying k = some (.int .i64)) (he : P.underlying e = some .bool)
    (b r : Nat) (ks lf : List Int) (hit : a.eval it = .pointer (some ⟨r, 0, none⟩)) (h : KRange P k e w b r ks lf) (hsub : ∀ x ∈ lf, x ∈ ks)
    (hDone : lf = [] → wpList P ops Q rest (a.put o.dst (.tuple #[.bool false])) w)
    (hMore : ∀ (x : Int) (w' : World), (Lit.int .i64 x).wf = true → x ∈ lf → KRange P k e w' b r ks (lf.filter fun y => !decide (y = x)) → w'.rangeLeft b r < w.rangeLeft b r →
      w.grownBy w' (some r) → w'.heap.size = w.heap.size → (Instr.entry (.pointer (some ⟨r, 0, none⟩))).run P w' = .ok (.tuple #[.int .i64 x, .bool true]) w' → wpList P ops Q rest (a.put o.dst (.tuple #[.bool true, .int .i64 x, .bool true])) w') :
    wpList P ops Q (o :: rest) a w := by
  obtain ⟨D, left, cnt, h1, h2, h3⟩ := h
  refine wpList_next_ranges w hg it hop k K (plainElem P e) (Value.int .i64) Value.bool (fun key kl hkey => by obtain ⟨x, rfl, _⟩ := Maps.keyOf_int_inv hk hkey; exact ⟨x, rfl⟩) (fun v y hv => by obtain ⟨c, rfl, _⟩ := plainElem_bool_inv he hv; exact ⟨c, rfl⟩)
    b r _ D left cnt hit h1 (fun _ hl => hDone ?_) (fun x c kl y w' cnt' hkey hlk hv hat hrg hlt hgr hsz hen => ?_)
  · refine List.eq_nil_iff_forall_not_mem.2 fun x hx => ?_
    have := h3 x
    rw [hl, decide_eq_true hx] at this
    cases this
  · obtain ⟨x', ex, rfl, hwx⟩ := Maps.keyOf_int_inv hk hkey
    cases ex
    obtain ⟨c', ec, rfl⟩ := plainElem_bool_inv he hv
    cases ec
    have hx : x ∈ lf := by rw [h3 x] at hlk; exact of_decide_eq_true hlk
    have hc : c = true := by
      have e1 := hat (.lit (.bool false))
      rw [h2.2.2.2.1 x (hsub x hx)] at e1
      injection e1 with e1
      injection e1 with e1
      exact e1.symm
    subst hc
    refine hMore x w' hwx hx ⟨D, _, cnt', hrg, h2, fun z => ?_⟩ (by rw [hrg.left_eq, h1.left_eq]; exact hlt) hgr hsz hen
    rw [h3 z, int_sameKey]
    by_cases h4 : z ∈ lf <;> by_cases h5 : z = x <;> simp [h4, h5]
theorem wpList_put_keys (hg : o.guard = none) (m x v : Operand) (t : TypeId) (hop : o.op = Op.mapUpdate t m x v) (k e : TypeId) (K : Keyed P k) (hk : P.underlying k = some (.int .i64)) (ht : P.underlying t = some (.map k e)) (he : P.underlying e = some .bool)
    (b : Nat) (ks : List Int) (hm : a.eval m = .map (some b)) (h : IsKeys P k e w b ks) (hn : ks.length < maxLen) (y : Int) (hx : a.eval x = .int .i64 y) (hv : a.eval v = .bool true) (hw : (Lit.int .i64 y).wf = true)
    (hK : ∀ w', IsKeys P k e w' b (insK ks y) → w.grownBy w' (some b) → wpList P ops Q rest (a.put o.dst undef) w') : wpList P ops Q (o :: rest) a w := by
  obtain ⟨D, h1, h2⟩ := h
  have hkey := K.key (Maps.keyOf_int_mk hk hw)
  have hsz : Maps.size (D.put (.int .i64 y) (.lit (.bool true))) = (insK ks y).length := by
    rw [Maps.size_put (h1.tidy K), h2.2.2.1 y, h2.1, insK_len]
    by_cases hy : y ∈ ks <;> simp [hy]
  refine wpList_mapUpdate_own w hg m x v t hop k e K ht _ b _ D hm h1 hn _ _ _ hx hv (Maps.keyOf_int_mk hk hw) (.lit (.bool true)) [] (plainElem_bool he true) (fun w' h3 h4 => hK w' ⟨D.put (.int .i64 y) (.lit (.bool true)), ?_, ?_⟩ h4)
  · rw [← hsz]; exact ownsMap_tight h3
  · refine ⟨hsz, insK_nodup h2.2.1 y, fun z => ?_, fun z hz u => ?_, fun z hz => ?_⟩
    · by_cases hzy : z = y
      · subst hzy
        rw [Maps.has_put_same h1.isMap hkey]
        exact (decide_eq_true ((insK_mem _ _ _).2 (.inr rfl))).symm
      · rw [Maps.has_put_other (by intro e; exact hzy (by injection e)), h2.2.2.1 z]
        exact decide_eq_decide.2 ⟨fun h' => (insK_mem _ _ _).2 (.inl h'), fun h' => ((insK_mem _ _ _).1 h').elim id (fun e => absurd e hzy)⟩
    · by_cases hzy : z = y
      · subst hzy
        exact Maps.atKey_put_same h1.isMap hkey _ _
      · rw [Maps.atKey_put_other (by intro e; exact hzy (by injection e))]
        exact h2.2.2.2.1 z (((insK_mem _ _ _).1 hz).elim id (fun e => absurd e hzy)) u
    · rcases (insK_mem _ _ _).1 hz with h' | rfl
      · exact h2.2.2.2.2 z h'
      · exact hw
theorem wpList_del_krange (hg : o.guard = none) (m x : Operand) (t k : TypeId) (hop : o.op = Op.call { callee := Callee.builtin Builtin.delete, args := #[m, x], argTypes := #[t, k] })
    (e : TypeId) (K : Keyed P k) (hk : P.underlying k = some (.int .i64)) (ht : P.underlying t = some (.map k e)) (b r : Nat) (ks lf : List Int) (hm : a.eval m = .map (some b)) (h : KRange P k e w b r ks lf) (y : Int) (hx : a.eval x = .int .i64 y) (hw : (Lit.int .i64 y).wf = true)
    (hK : ∀ w', KRange P k e w' b r (ks.filter fun z => !decide (z = y)) (lf.filter fun z => !decide (z = y)) → w'.rangeLeft b r ≤ w.rangeLeft b r → w.grownBy w' (some b) → wpList P ops Q rest (a.put o.dst (.tuple #[])) w') :
    wpList P ops Q (o :: rest) a w := by
  obtain ⟨D, left, cnt, h1, h2, h3⟩ := h
  refine wpList_delete_ranges w hg m x t k hop e K ht _ b r _ D left cnt hm h1 _ _ hx (Maps.keyOf_int_mk hk hw) (fun w' cnt' h4 hle ht' => hK w' ?_ (by rw [h4.left_eq, h1.left_eq]; exact hle) ht'.grown)
  have hsz : Maps.size (D.del (.int .i64 y)) = (ks.filter fun z => !decide (z = y)).length := by
    have e1 := Maps.size_del (k := .int .i64 y) (h1.owns.tidy K)
    rw [h2.2.2.1 y, h2.1] at e1
    by_cases hy : y ∈ ks
    · rw [decide_eq_true hy, if_pos rfl] at e1
      have e2 : (ks.filter fun z => !decide (z = y)) = ks.erase y := by rw [h2.2.1.erase_eq_filter]; exact List.filter_congr (fun z _ => rfl)
      rw [e2, List.length_erase_of_mem hy]
      omega
    · rw [decide_eq_false hy] at e1
      rw [List.filter_eq_self.2 (fun z hz => by simp; rintro rfl; exact hy hz)]
      simpa using e1
  refine ⟨D.del (.int .i64 y), (fun z => left z && !z.sameKey (.int .i64 y)), cnt', ?_, ⟨hsz, h2.2.1.filter _, fun z => ?_, fun z hz u => ?_, fun z hz => h2.2.2.2.2 z (List.mem_filter.1 hz).1⟩, fun z => ?_⟩
  · obtain ⟨es, clock, since, seen, c0, q1, q2, q3, q4, q5⟩ := h4
    refine ⟨es, clock, since, seen, c0, q1, q2, ?_, q4, q5⟩
    rw [← hsz, q4, Maps.size_eq, length_read]
    exact Nat.le_refl _
  · by_cases hzy : z = y
    · subst hzy; rw [Maps.has_del_same]; simp
    · rw [Maps.has_del_other (by intro e; exact hzy (by injection e)), h2.2.2.1 z]
      exact decide_eq_decide.2 (by simp [List.mem_filter, hzy])
  · have hzy : z ≠ y := by simpa using (List.mem_filter.1 hz).2
    rw [Maps.atKey_del_other (by intro e; exact hzy (by injection e))]
    exact h2.2.2.2.1 z (List.mem_filter.1 hz).1 u
  · show (left (.int .i64 z) && !(Lit.int .i64 z).sameKey (.int .i64 y)) = _
    rw [h3 z, int_sameKey]
    by_cases h4 : z ∈ lf <;> by_cases h5 : z = y <;> simp [h4, h5]
end
theorem nodup_sub_len : ∀ (a b : List Int), a.Nodup → (∀ x ∈ a, x ∈ b) → a.length ≤ b.length
  | [], _, _, _ => Nat.zero_le _
  | x :: a, b, h, hs => by
    rw [List.nodup_cons] at h
    have hx : x ∈ b := hs x (by simp)
    have := nodup_sub_len a (b.erase x) h.2 (fun z hz => (List.mem_erase_of_ne (fun e => h.1 (by subst e; exact hz))).2 (hs z (by simp [hz])))
    rw [List.length_erase_of_mem hx] at this
    have hpos : 0 < b.length := List.length_pos_of_mem hx
    rw [List.length_cons]
    omega
theorem belowG {w W w' : World} {row : Option Nat} (h : Below w.heap.size w W) (hg : W.grownBy w' row) (hr : ∀ k, row = some k → w.heap.size ≤ k) : Below w.heap.size w w' := h.grown hg h.size hr
end Go.Proofs.Ythegbhfoleiegaa.All

/- impl.ahead and (*liveness).behind: maps of true alone, walked by hand. -/
namespace Go.Proofs.Ythegbhfoleiegaa.All
open Go.RowKit Go.Proofs.YthegbhfoleiegaaW.PrintWords Go.Proofs.YthegbhfoleiegaaW.PrintLast Go.Proofs.YthegbhfoleiegaaW.PrintMore
set_option linter.unusedVariables false
set_option linter.unusedSimpArgs false
def aheadK (dst : Int) (rs ks : List Int) : List Int := rs.foldl insK (ks.filter fun x => !decide (x = dst))
theorem foldIns_nodup (rs : List Int) : ∀ (ks : List Int), ks.Nodup → (rs.foldl insK ks).Nodup := by
  induction rs with
  | nil => intro ks h; exact h
  | cons a rs ih => intro ks h; exact ih _ (insK_nodup h a)
theorem foldIns_mem (rs : List Int) : ∀ (ks : List Int) (x : Int), x ∈ rs.foldl insK ks ↔ x ∈ ks ∨ x ∈ rs := by
  induction rs with
  | nil => intro ks x; simp
  | cons a rs ih => intro ks x; rw [List.foldl_cons, ih, insK_mem, List.mem_cons, or_assoc]
theorem foldIns_len (rs : List Int) : ∀ (ks : List Int), (rs.foldl insK ks).length ≤ ks.length + rs.length := by
  induction rs with
  | nil => intro ks; simp
  | cons a rs ih => intro ks; have h1 := ih (insK ks a); have h2 := insK_le ks a; rw [List.foldl_cons, List.length_cons]; omega
theorem aheadK_mem (dst : Int) (rs ks : List Int) (x : Int) : x ∈ aheadK dst rs ks ↔ (x ∈ ks ∧ x ≠ dst) ∨ x ∈ rs := by
  unfold aheadK
  rw [foldIns_mem, List.mem_filter]
  simp
theorem aheadK_nodup {ks : List Int} (h : ks.Nodup) (dst : Int) (rs : List Int) : (aheadK dst rs ks).Nodup := foldIns_nodup _ _ (h.filter _)
theorem own_geR {α : Type} {d : Kd α} {e : TypeId} {w : World} {base : Nat} {ok : Nat → Prop} {v : Value} {xs : List α} (h : d.R e w base ok v xs) (k : Nat) (hk : v.ownBlock = some k) : base ≤ k := (h.2.choose_spec.1.lt k hk).1
set_option maxHeartbeats 4000000 in
set_option maxRecDepth 100000 in
theorem ahead_calls (k : Nat) (a0_0 : Int) (a0_1 : Int) (a0_2 : Int) (a0_3 : Int) (a0_4 : Int) (a0_5 : Int) (a0_6 : ByteArray) (A0_7 : Option Addr) (c0_7 : Nat) (l0_7 : List Int) (b : Nat) (ks rs : List Int) (w : World)
    (hr0_7 : Kd.C (Kd.int .i64) w A0_7 l0_7.length l0_7) (hc0_7 : l0_7.length ≤ c0_7) (h : IsKeys Try.prog 2 4 w b ks) (hR : impl_Reads.f k a0_0 a0_1 a0_2 a0_3 a0_4 a0_5 a0_6 l0_7 = some rs) (hwf : ∀ x ∈ rs, (Lit.int .i64 x).wf = true)
    (hl : ks.length + rs.length < 1099511627776) :
    Calls Try.prog 123 #[.agg #[.int .i64 a0_0, .int .i64 a0_1, .int .i64 a0_2, .int .i64 a0_3, .int .i64 a0_4, .int .i64 a0_5, .string a0_6, .slice A0_7 l0_7.length c0_7], .map (some b)] w fun e w' =>
      ∃ b', e = .returned (.map (some b')) ∧ w.heap.size ≤ b' ∧ IsKeys Try.prog 2 4 w' b' (aheadK a0_1 rs ks) ∧ Below w.heap.size w w' := by
  have hb := h.lt
  have hn := h.nodup
  have HK := Aside0.mk h
  have HL := Aside0.mk hl
  have HR := Aside0.mk hR
  have HW := Aside0.mk hwf
  have HA := Aside0.mk hr0_7
  clear h hl hR hwf hr0_7
  have hu1 := Try.underlying87
  have hmm := @run_makeMap Try.prog
  go_enter Try.func123, Try.ntmps123
  go_wp2_with (first | (at_range; refine wpList_range_keys rfl _ 92 rfl 2 4 (Maps.int_keyed Try.underlying2) Try.underlying92 b ks rfl ((HK.out.alloc _).alloc _) ?_; intro w0 hrg0 hg0 hs0))
  have e1 : ((w.alloc (.cells #[.int .i64 a0_0, .int .i64 a0_1, .int .i64 a0_2, .int .i64 a0_3, .int .i64 a0_4, .int .i64 a0_5, .string a0_6, .slice A0_7 l0_7.length c0_7] 87)).alloc (.map #[] 0)).heap.size = w.heap.size + 2 := by simp
  have e2 : (w.alloc (.cells #[.int .i64 a0_0, .int .i64 a0_1, .int .i64 a0_2, .int .i64 a0_3, .int .i64 a0_4, .int .i64 a0_5, .string a0_6, .slice A0_7 l0_7.length c0_7] 87)).heap.size = w.heap.size + 1 := by simp
  have bx0 := blk_grown (blk_alloc (blk_new w (.cells #[.int .i64 a0_0, .int .i64 a0_1, .int .i64 a0_2, .int .i64 a0_3, .int .i64 a0_4, .int .i64 a0_5, .string a0_6, .slice A0_7 l0_7.length c0_7] 87)) (.map #[] 0)) hg0 (by simp)
  have mp0 := (IsKeys.made (w.alloc (.cells #[.int .i64 a0_0, .int .i64 a0_1, .int .i64 a0_2, .int .i64 a0_3, .int .i64 a0_4, .int .i64 a0_5, .string a0_6, .slice A0_7 l0_7.length c0_7] 87)) Try.prog 2 4).kept hg0 (by simp)
  have bl0 : Below w.heap.size w w0 := belowG (below_alloc (below_alloc (Below.refl _ _) _) _) hg0 (fun _ e => by cases e)
  rw [e2] at mp0
  rw [e1] at hrg0 hs0
  have HX := Aside0.mk bx0
  have HM := Aside0.mk mp0
  have HB := Aside0.mk bl0
  have HG := Aside0.mk hrg0
  clear bx0 mp0 bl0 hrg0 hg0
  go_frame
  (first | rw [e1, e2] | rw [e1] | rw [e2] | skip)
  clear e1 e2
  go_loopw [6] (fun _ wr => ∃ (lf ms : List Int), Aside0 (KRange Try.prog 2 4 wr b (w.heap.size + 2) ks lf) ∧ Aside0 (∀ x ∈ lf, x ∈ ks) ∧ Aside0 (IsKeys Try.prog 2 4 wr (w.heap.size + 1) ms) ∧ Aside0 (∀ x, x ∈ ms ↔ (x ∈ ks ∧ x ∉ lf) ∧ x ≠ a0_1) ∧ Aside0 (wr.heap[w.heap.size]? = some (.cells #[.int .i64 a0_0, .int .i64 a0_1, .int .i64 a0_2, .int .i64 a0_3, .int .i64 a0_4, .int .i64 a0_5, .string a0_6, .slice A0_7 l0_7.length c0_7] 87)) ∧ Aside0 (Below w.heap.size w wr))
    (fun _ wr => wr.rangeLeft b (w.heap.size + 2))
  case atStart => exact ⟨ks, [], HG, ⟨fun x h => h⟩, HM, ⟨by simp⟩, HX, HB⟩
  case round =>
    clear HG HM HX HB
    obtain ⟨lf, ms, HG, HS, HM, HE, HX, HB⟩ := hrel
    go_wp2_with (first | (at_next; refine wpList_next_keys rfl _ rfl 2 4 (Maps.int_keyed Try.underlying2) Try.underlying2 Try.underlying4 b (w.heap.size + 2) ks lf rfl HG.out HS.out ?_ ?_))
    · intro hlf
      subst hlf
      have b0 := (blk_cell HX.out 0).trans rfl
      have b1 := (blk_cell HX.out 1).trans rfl
      have b2 := (blk_cell HX.out 2).trans rfl
      have b3 := (blk_cell HX.out 3).trans rfl
      have b4 := (blk_cell HX.out 4).trans rfl
      have b5 := (blk_cell HX.out 5).trans rfl
      have b6 := (blk_cell HX.out 6).trans rfl
      have b7 := (blk_cell HX.out 7).trans rfl
      have hkey : IsKeys Try.prog 2 4 wr (w.heap.size + 1) (ks.filter fun x => !decide (x = a0_1)) := HM.out.same (hn.filter _) (fun x => by rw [HE.out, List.mem_filter]; simp)
      have HM := Aside0.mk hkey
      clear hkey
      go_wp2_with (fail)
      (go_at_call 64; refine (impl_Reads.calls k a0_0 a0_1 a0_2 a0_3 a0_4 a0_5 a0_6 A0_7 c0_7 l0_7 rs _ (Kd.C_below HA.out HB.out) hc0_7 HR.out).mono ?_; rintro e w2 ⟨v2, rfl, hv2, hb2⟩; obtain ⟨A2, c2, hvv⟩ := Kd.R_slice hv2; subst hvv; have HV := Aside0.mk (Kd.R_lower hv2 HB.out.size); have HM2 := Aside0.mk (HM.out.below hb2); have hw2 := hb2.size; have HB2 := Aside0.mk (below_step HB.out hb2); have h1 := HB.out.size; have h0 := HM.out.lt; have HV := Aside0.mk (Kd.R_far1 HV.out rfl (g := w.heap.size + 1) (fun e => by have := own_geR hv2 _ e.symm; omega)); clear hv2 hb2 b0 b1 b2 b3 b4 b5 b6 b7)
      have hw3 := HB2.out.size
      have HB3 := Aside0.mk HB2.out
      obtain ⟨F, hF⟩ : ∃ F, F = ks.filter fun x => !decide (x = a0_1) := ⟨_, rfl⟩
      have hFl : F.length ≤ ks.length := by rw [hF]; exact List.length_filter_le _ _
      rw [← hF] at HM2
      have HFF := Aside0.mk hF
      clear HM HB HX HE HS HG hF HB2
      go_wp2
      go_loopw [25] (fun v wr => ∃ (m : Nat), m ≤ rs.length ∧ v = .int .i64 (m : Int) ∧ Aside0 (IsKeys Try.prog 2 4 wr (w.heap.size + 1) ((rs.take m).foldl insK F)) ∧ Aside0 (Kd.R (Kd.int .i64) 2 wr w.heap.size (fun k => True ∧ k ≠ w.heap.size + 1) (.slice A2 rs.length c2) rs) ∧ Aside0 (Below w.heap.size w wr)) (fun v _ => rs.length - (intOf v).toNat)
      case atStart => exact ⟨0, Nat.zero_le _, rfl, ⟨by rw [List.take_zero]; exact HM2.out⟩, HV, HB3⟩
      case round =>
        clear HM2 HV HB3
        obtain ⟨m, hm, rfl, HM, HV, HB⟩ := hrel
        by_cases hlm : m < rs.length
        · obtain ⟨g, cap2, hg, _, _, _⟩ := Kd.R_form HV.out (by omega)
          injection hg with hg hg2 hg3
          subst hg
          subst hg3
          obtain ⟨cx, _⟩ := Kd.R_celln 0 HV.out (m : Int) (by omega) (by omega)
          obtain ⟨x, hx⟩ : ∃ x, x = rs[m] := ⟨_, rfl⟩
          have hrx : rdOf 0 rs (m : Int) = x := by rw [hx]; simp [rdOf, List.getElem?_eq_getElem hlm]
          rw [hrx, Int.toNat_natCast] at cx
          have hxm : x ∈ rs := by rw [hx]; exact List.getElem_mem _
          have hwx := HW.out x hxm
          have hfl := foldIns_len (rs.take m) F
          rw [List.length_take] at hfl
          have hl := HL.out
          have htk : (rs.take (m + 1)).foldl insK F = insK ((rs.take m).foldl insK F) x := by rw [List.take_succ_eq_append_getElem hlm, List.foldl_append, ← hx]; rfl
          have HT := Aside0.mk htk
          clear htk hx hrx
          go_wp2_with (first | (at_mapUpdate; refine wpList_put_keys rfl _ _ _ 92 rfl 2 4 (Maps.int_keyed Try.underlying2) Try.underlying2 Try.underlying92 Try.underlying4 (w.heap.size + 1) _ rfl HM.out (Nat.lt_trans (by omega : ((rs.take m).foldl insK F).length < 1099511627776) (by decide)) x rfl rfl hwx ?_; intro w2 hm2 hg2))
          have HT2 := Aside0.mk hm2
          have HR2 := Aside0.mk (Kd.R_grown HV.out hg2 (fun k h e => by cases e; exact h.2 rfl))
          have HB2 := Aside0.mk (belowG HB.out hg2 (fun k e => by cases e; omega))
          clear hm2 hg2 cx HM HV HB
          go_roundw
          case measure => simp [intOf]; omega
          case rel => first | exact ⟨m + 1, by omega, by go_num, ⟨by rw [HT.out]; exact HT2.out⟩, HR2, HB2⟩ | ((repeat apply Exists.intro); exact ⟨⟨m + 1, by omega, by go_num, ⟨by rw [HT.out]; exact HT2.out⟩, HR2, HB2⟩, rfl⟩)
        · have hme : m = rs.length := by omega
          subst hme
          go_wp2
          go_ret
          exact ⟨w.heap.size + 1, rfl, by omega, by have h := HM.out; rw [List.take_length, HFF.out] at h; exact h, HB.out⟩
    · intro x w1 hwx hx hg1 hlt hgr hsz hen
      have b1 := (blk_cell HX.out 1).trans rfl
      have hmlt := HM.out.lt
      have hx1 := blk_grown HX.out hgr (by simp)
      have b1 := (blk_cell hx1 1).trans rfl
      have HX1 := Aside0.mk hx1
      have HB1 := Aside0.mk (belowG HB.out hgr (fun k e => by cases e; omega))
      have HM1 := Aside0.mk (HM.out.kept hgr (by simp))
      have HG1 := Aside0.mk hg1
      clear hx1 hg1 hgr HX HB HM
      by_cases hxd : x = a0_1
      · subst hxd
        go_wp2
        go_roundw
        case measure => exact hlt
        case rel => exact ⟨_, ms, HG1, ⟨fun y hy => HS.out y (List.mem_filter.1 hy).1⟩, HM1, ⟨fun y => by rw [HE.out, List.mem_filter]; by_cases hy : y = x <;> simp [hy]⟩, HX1, HB1⟩
      · have hml : ms.length ≤ ks.length := nodup_sub_len _ _ HM1.out.nodup (fun y hy => ((HE.out y).1 hy).1.1)
        have hl := HL.out
        go_wp2_with (first | (at_mapUpdate; refine wpList_put_keys rfl _ _ _ 92 rfl 2 4 (Maps.int_keyed Try.underlying2) Try.underlying2 Try.underlying92 Try.underlying4 (w.heap.size + 1) ms rfl HM1.out (Nat.lt_trans (by omega : ms.length < 1099511627776) (by decide)) x rfl rfl hwx ?_; intro w2 hm2 hg2))
        have HG2 := Aside0.mk (HG1.out.kept hg2 (by simp; omega) (by simp))
        have hlt2 := HG1.out.left_kept hg2 (by simp; omega) (by simp)
        go_roundw
        case measure => rw [hlt2]; exact hlt
        case rel => (repeat apply Exists.intro); exact ⟨⟨_, _, HG2, ⟨fun y hy => HS.out y (List.mem_filter.1 hy).1⟩, ⟨hm2⟩, ⟨fun y => by rw [insK_mem, HE.out, List.mem_filter]; by_cases hy : y = x <;> simp [hy, hxd, HS.out x hx]⟩, ⟨blk_grown HX1.out hg2 (by simp)⟩, ⟨belowG HB1.out hg2 (fun k e => by cases e; omega)⟩⟩, rfl⟩
abbrev KM : Kd Nat := Kd.scalar (fun b : Nat => Value.map (some b)) (fun _ => rfl)
def stopsB (op : Int) : Bool := (impl_stops.f op).getD false
def jumpsB (op : Int) : Bool := (impl_jumps.f op).getD false
theorem stopsB_f (op : Int) : impl_stops.f op = some (stopsB op) := by unfold stopsB impl_stops.f; split <;> (try split) <;> rfl
theorem jumpsB_f (op : Int) : impl_jumps.f op = some (jumpsB op) := by unfold jumpsB impl_jumps.f; split <;> (try split) <;> rfl
def flowK (op : Int) (nx : List Int) : List Int := if stopsB op = true then [] else nx
def jumpK (op imm : Int) (kss : List (List Int)) : List Int := if jumpsB op = true ∧ 0 ≤ imm ∧ imm < (kss.length : Int) then kss.getD imm.toNat [] else []
def behindK (op imm : Int) (kss : List (List Int)) (nx : List Int) : List Int := (jumpK op imm kss).foldl insK (flowK op nx)
theorem behindK_mem (op imm : Int) (kss : List (List Int)) (nx : List Int) (x : Int) : x ∈ behindK op imm kss nx ↔ x ∈ flowK op nx ∨ x ∈ jumpK op imm kss := foldIns_mem _ _ _
theorem flowK_nodup {nx : List Int} (h : nx.Nodup) (op : Int) : (flowK op nx).Nodup := by unfold flowK; split <;> simp [h]
theorem behindK_nodup {nx : List Int} (h : nx.Nodup) (op imm : Int) (kss : List (List Int)) : (behindK op imm kss nx).Nodup := foldIns_nodup _ _ (flowK_nodup h op)
set_option maxHeartbeats 4000000 in
set_option maxRecDepth 100000 in
theorem behind_calls (a0_0 : Int) (a0_1 : Int) (a0_2 : Int) (a0_3 : Int) (a0_4 : Int) (a0_5 : Int) (a0_6 : ByteArray) (A0_7 : Option Addr) (c0_7 : Nat) (l0_7 : List Int) (b : Nat) (nx : List Int) (w : World)
    (bL base : Nat) (ok : Nat → Prop) (u0 u1 vb : Value) (Ab : Option Addr) (cb nb : Nat) (bs : List Nat) (kss : List (List Int))
    (hbx : w.heap[bL]? = some (.cells #[u0, u1, .slice Ab nb cb, vb] 102 (0, 0))) (hrow : KM.R 92 w base ok vb bs) (hlen : bs.length = nb) (hkl : kss.length = nb)
    (hks : ∀ j, j < nb → IsKeys Try.prog 2 4 w (bs.getD j 0) (kss.getD j []))
    (h : IsKeys Try.prog 2 4 w b nx) (hl : nx.length < 549755813888) (hls : ∀ j, j < nb → (kss.getD j []).length < 549755813888) :
    Calls Try.prog 124 #[.pointer (some ⟨bL, 0, none⟩), .agg #[.int .i64 a0_0, .int .i64 a0_1, .int .i64 a0_2, .int .i64 a0_3, .int .i64 a0_4, .int .i64 a0_5, .string a0_6, .slice A0_7 l0_7.length c0_7], .map (some b)] w fun e w' =>
      ∃ b', e = .returned (.map (some b')) ∧ w.heap.size ≤ b' ∧ IsKeys Try.prog 2 4 w' b' (behindK a0_0 a0_5 kss nx) ∧ Below w.heap.size w w' := by
  have hb := h.lt
  have hn := h.nodup
  have hbl := blk_lt hbx
  have HK := Aside0.mk h
  have HL := Aside0.mk hl
  have HLS := Aside0.mk hls
  have HKS := Aside0.mk hks
  have HRW := Aside0.mk hrow
  have HBX := Aside0.mk hbx
  clear h hl hls hks hrow hbx
  have hu1 := Try.underlying87
  have hu2 := Try.underlying102
  have hu3 := Try.underlying29
  have hmm := @run_makeMap Try.prog
  obtain ⟨s, hs⟩ : ∃ s, s = stopsB a0_0 := ⟨_, rfl⟩
  obtain ⟨jm, hjm⟩ : ∃ s, s = jumpsB a0_0 := ⟨_, rfl⟩
  have hst := stopsB_f a0_0
  have hjp := jumpsB_f a0_0
  rw [← hs] at hst
  rw [← hjm] at hjp
  have HST := Aside0.mk hst
  have HJP := Aside0.mk hjp
  clear hst hjp
  have e2 : (w.alloc (.cells #[.int .i64 a0_0, .int .i64 a0_1, .int .i64 a0_2, .int .i64 a0_3, .int .i64 a0_4, .int .i64 a0_5, .string a0_6, .slice A0_7 l0_7.length c0_7] 87)).heap.size = w.heap.size + 1 := by simp
  have e1 : ((w.alloc (.cells #[.int .i64 a0_0, .int .i64 a0_1, .int .i64 a0_2, .int .i64 a0_3, .int .i64 a0_4, .int .i64 a0_5, .string a0_6, .slice A0_7 l0_7.length c0_7] 87)).alloc (.map #[] 0)).heap.size = w.heap.size + 2 := by simp
  have bx0 := blk_alloc (blk_new w (.cells #[.int .i64 a0_0, .int .i64 a0_1, .int .i64 a0_2, .int .i64 a0_3, .int .i64 a0_4, .int .i64 a0_5, .string a0_6, .slice A0_7 l0_7.length c0_7] 87)) (.map #[] 0)
  have mp0 := IsKeys.made (w.alloc (.cells #[.int .i64 a0_0, .int .i64 a0_1, .int .i64 a0_2, .int .i64 a0_3, .int .i64 a0_4, .int .i64 a0_5, .string a0_6, .slice A0_7 l0_7.length c0_7] 87)) Try.prog 2 4
  rw [e2] at mp0
  have bl0 : Below w.heap.size w ((w.alloc (.cells #[.int .i64 a0_0, .int .i64 a0_1, .int .i64 a0_2, .int .i64 a0_3, .int .i64 a0_4, .int .i64 a0_5, .string a0_6, .slice A0_7 l0_7.length c0_7] 87)).alloc (.map #[] 0)) := below_alloc (below_alloc (Below.refl _ _) _) _
  have HX := Aside0.mk bx0
  have HM := Aside0.mk mp0
  have HB := Aside0.mk bl0
  have b0 := (blk_cell bx0 0).trans rfl
  clear bx0 mp0 bl0
  go_enter Try.func124, Try.ntmps124
  have HS0 := Aside0.mk hs
  have HJ0 := Aside0.mk hjm
  clear hs hjm
  go_upto_if 14 with (first | (go_at_call 130; refine (impl_stops.calls a0_0 s _ HST.out).mono ?_; rintro e w' ⟨rfl, ⟨nd, rfl⟩⟩))
  have HM := Aside0.mk (HM.out.drewN nd)
  have HX := Aside0.mk (blk_drewN HX.out nd)
  have HB := Aside0.mk (pw_below_drewN HB.out nd)
  have HK := Aside0.mk (((HK.out.alloc (.cells #[.int .i64 a0_0, .int .i64 a0_1, .int .i64 a0_2, .int .i64 a0_3, .int .i64 a0_4, .int .i64 a0_5, .string a0_6, .slice A0_7 l0_7.length c0_7] 87)).alloc (.map #[] 0)).drewN nd)
  clear b0
  go_cut [] (fun wc => ∃ (ms : List Int), Aside0 (IsKeys Try.prog 2 4 wc (w.heap.size + 1) ms) ∧ Aside0 (∀ x, x ∈ ms ↔ x ∈ flowK a0_0 nx) ∧ Aside0 (wc.heap[w.heap.size]? = some (.cells #[.int .i64 a0_0, .int .i64 a0_1, .int .i64 a0_2, .int .i64 a0_3, .int .i64 a0_4, .int .i64 a0_5, .string a0_6, .slice A0_7 l0_7.length c0_7] 87 (0, 0))) ∧ Aside0 (Below w.heap.size w wc))
  case first =>
    cases s
    · go_wp2_with (first | (at_range; refine wpList_range_keys rfl _ 92 rfl 2 4 (Maps.int_keyed Try.underlying2) Try.underlying92 b nx rfl HK.out ?_; intro w0 hrg0 hg0 hs0))
      have e1' : (((w.alloc (.cells #[.int .i64 a0_0, .int .i64 a0_1, .int .i64 a0_2, .int .i64 a0_3, .int .i64 a0_4, .int .i64 a0_5, .string a0_6, .slice A0_7 l0_7.length c0_7] 87)).alloc (.map #[] 0)).drewN nd).heap.size = w.heap.size + 2 := e1
      rw [e1'] at hrg0 hs0
      have HG := Aside0.mk hrg0
      have HM := Aside0.mk (HM.out.kept hg0 (by simp))
      have HX := Aside0.mk (blk_grown HX.out hg0 (by simp))
      have HB := Aside0.mk (belowG HB.out hg0 (fun _ e => by cases e))
      clear hrg0 hg0
      go_frame
      (first | rw [e1', e2] | rw [e1'] | rw [e2] | skip)
      clear e1 e2 e1'
      go_loopw [8] (fun _ wr => ∃ (lf mz : List Int), Aside0 (KRange Try.prog 2 4 wr b (w.heap.size + 2) nx lf) ∧ Aside0 (∀ x ∈ lf, x ∈ nx) ∧ Aside0 (IsKeys Try.prog 2 4 wr (w.heap.size + 1) mz) ∧ Aside0 (∀ x, x ∈ mz ↔ x ∈ ([] : List Int) ∨ (x ∈ nx ∧ x ∉ lf)) ∧ Aside0 (wr.heap[w.heap.size]? = some (.cells #[.int .i64 a0_0, .int .i64 a0_1, .int .i64 a0_2, .int .i64 a0_3, .int .i64 a0_4, .int .i64 a0_5, .string a0_6, .slice A0_7 l0_7.length c0_7] 87 (0, 0))) ∧ Aside0 (Below w.heap.size w wr))
        (fun _ wr => wr.rangeLeft b (w.heap.size + 2))
      case atStart => exact ⟨nx, ([] : List Int), HG, ⟨fun x h => h⟩, HM, ⟨by simp⟩, HX, HB⟩
      case round =>
        clear HG HM HX HB
        obtain ⟨lf, mz, HG, HS, HM, HE, HX, HB⟩ := hrel
        go_wp2_with (first | (at_next; refine wpList_next_keys rfl _ rfl 2 4 (Maps.int_keyed Try.underlying2) Try.underlying2 Try.underlying4 b (w.heap.size + 2) nx lf rfl HG.out HS.out ?_ ?_))
        · intro hlf
          subst hlf
          go_wp2
          go_meet
          case rel => exact ⟨mz, HM, ⟨fun x => by rw [HE.out]; unfold flowK; rw [← HS0.out]; simp⟩, HX, HB⟩
        · intro x w1 hwx hx hg1 hlt hgr hsz hen
          have hmlt := HM.out.lt
          have hx1 := blk_grown HX.out hgr (by intro e; have := Option.some.inj e; omega)
          have HX1 := Aside0.mk hx1
          have HB1 := Aside0.mk (belowG HB.out hgr (fun k e => by cases e; omega))
          have HM1 := Aside0.mk (HM.out.kept hgr (by intro e; have := Option.some.inj e; omega))
          have HG1 := Aside0.mk hg1
          clear hx1 hg1 hgr HX HB HM
          have hml : mz.length ≤ ([] : List Int).length + nx.length := by rw [← List.length_append]; exact nodup_sub_len _ _ HM1.out.nodup (fun y hy => by rw [List.mem_append]; exact ((HE.out y).1 hy).imp id (fun h => h.1))
          (try simp only [List.length_nil, Nat.zero_add] at hml)
          have hl := HL.out
          go_wp2_with (first | (at_mapUpdate; refine wpList_put_keys rfl _ _ _ 92 rfl 2 4 (Maps.int_keyed Try.underlying2) Try.underlying2 Try.underlying92 Try.underlying4 (w.heap.size + 1) mz rfl HM1.out (Nat.lt_trans (by omega : mz.length < 1099511627776) (by decide)) x rfl rfl hwx ?_; intro w2 hm2 hg2))
          have HG2 := Aside0.mk (HG1.out.kept hg2 (by intro e; have := Option.some.inj e; omega) (by intro e; have := Option.some.inj e; omega))
          have hlt2 := HG1.out.left_kept hg2 (by intro e; have := Option.some.inj e; omega) (by intro e; have := Option.some.inj e; omega)
          go_roundw
          case measure => rw [hlt2]; exact hlt
          case rel => (repeat apply Exists.intro); exact ⟨⟨_, _, HG2, ⟨fun y hy => HS.out y (List.mem_filter.1 hy).1⟩, ⟨hm2⟩, ⟨fun y => by rw [insK_mem, HE.out, List.mem_filter]; by_cases hy : y = x <;> simp [hy, HS.out x hx]⟩, ⟨blk_grown HX1.out hg2 (by simp)⟩, ⟨belowG HB1.out hg2 (fun k e => by cases e; omega)⟩⟩, rfl⟩
    · go_wp2
      go_meet
      case rel => exact ⟨[], HM, ⟨fun x => by unfold flowK; rw [← HS0.out]; simp⟩, HX, HB⟩
  case rest =>
    clear HM HX HB HK
    obtain ⟨ms, HM, HE, HX, HB⟩ := hcut
    have hsz := HB.out.size
    have hmn := HM.out.nodup
    have b0 := (blk_cell HX.out 0).trans rfl
    have b5 := (blk_cell HX.out 5).trans rfl
    have hbx2 := (HB.out.block bL hbl).trans HBX.out
    have d2 := (blk_cell hbx2 2).trans rfl
    by_cases hq : jm = true ∧ 0 ≤ a0_5 ∧ a0_5 < (nb : Int)
    · obtain ⟨rfl, c0, c1⟩ := hq
      have c0b : decide (0 ≤ a0_5) = true := decide_eq_true c0
      have c1b : decide (a0_5 < (nb : Int)) = true := decide_eq_true c1
      go_wp2
      go_quiet (exact Calls.quiet_of ((impl_jumps.calls a0_0 true _ HJP.out).mono fun _ _ ⟨h1, ⟨nd, h2⟩⟩ => ⟨h1, nd, h2⟩))
      obtain ⟨n, hn5⟩ : ∃ n : Nat, a0_5 = (n : Int) := ⟨a0_5.toNat, by omega⟩
      have hnb : n < nb := by omega
      obtain ⟨g, cap2, hg, _, hgb, _⟩ := Kd.R_form HRW.out (by omega)
      rw [hlen] at hg
      have HR0 := HRW.out
      rw [hg] at HR0
      obtain ⟨cx, _⟩ := Kd.R_celln 0 HR0 a0_5 c0 c1
      obtain ⟨bj, hbj⟩ : ∃ bj, bj = bs.getD n 0 := ⟨_, rfl⟩
      obtain ⟨kj, hkj⟩ : ∃ kj, kj = kss.getD n [] := ⟨_, rfl⟩
      have hrx : rdOf 0 bs a0_5 = bj := by rw [hbj, hn5]; simp [rdOf, List.getD_eq_getElem?_getD]
      have hkx := HKS.out n hnb
      have hlx := HLS.out n hnb
      rw [← hbj, ← hkj] at hkx
      rw [← hkj] at hlx
      rw [hrx] at cx
      have hjk : jumpK a0_0 a0_5 kss = kj := by unfold jumpK; rw [← HJ0.out, hkl, if_pos ⟨rfl, c0, c1⟩, hn5, Int.toNat_natCast, hkj]
      have cx := (HB.out.cell (p := ⟨g, a0_5.toNat, none⟩) hgb).trans cx
      rw [hg] at hbx2
      have d3 := (blk_cell hbx2 3).trans rfl
      have hbjl := hkx.lt
      have hkx := (hkx.below HB.out).drewN nq
      have HKX := Aside0.mk hkx
      have HJK := Aside0.mk hjk
      have HM := Aside0.mk (HM.out.drewN nq)
      have HX := Aside0.mk (blk_drewN HX.out nq)
      have HB := Aside0.mk (pw_below_drewN HB.out nq)
      have hml0 : ms.length ≤ nx.length := nodup_sub_len _ _ hmn (fun y hy => by have h := (HE.out y).1 hy; unfold flowK at h; split at h <;> first | exact h | cases h)
      have HLL := Aside0.mk (show ms.length + kj.length < 1099511627776 from by have := HL.out; omega)
      clear hkx hjk hrx hbj hkj HR0 hn5 hlx hml0
      obtain ⟨W9, hW9⟩ : ∃ W9, W9 = wc.drewN nq := ⟨_, rfl⟩
      go_wp2
      go_cut [50] (fun v50 wc => ∃ (r : Nat), v50 = .pointer (some ⟨r, 0, none⟩) ∧ w.heap.size + 1 < r ∧ Aside0 (KRange Try.prog 2 4 wc bj r kj kj) ∧ Aside0 (IsKeys Try.prog 2 4 wc (w.heap.size + 1) ms) ∧ Aside0 (wc.heap[w.heap.size]? = some (.cells #[.int .i64 a0_0, .int .i64 a0_1, .int .i64 a0_2, .int .i64 a0_3, .int .i64 a0_4, .int .i64 a0_5, .string a0_6, .slice A0_7 l0_7.length c0_7] 87 (0, 0))) ∧ Aside0 (Below w.heap.size w wc))
      case first =>
        rename_i J1 K1 hJ hK
        obtain ⟨w0, hrun, hrg0, hg0, hs0⟩ := ((show IsKeys Try.prog 2 4 (wc.drewN (nq + 1)) bj kj from HKX.out).range (Maps.int_keyed Try.underlying2) Try.underlying92)
        have hs9 : (wc.drewN (nq + 1)).heap.size = wc.heap.size := rfl
        have h9 := HM.out.lt
        go_region_with (fail)
        all_goals refine hK _ _ ?_
        all_goals refine hJ _ _ ?_
        all_goals ((repeat apply Exists.intro); exact ⟨⟨wc.heap.size, rfl, h9, ⟨hrg0⟩, ⟨(show IsKeys Try.prog 2 4 (wc.drewN (nq + 1)) (w.heap.size + 1) ms from HM.out).kept hg0 (by simp)⟩, ⟨blk_grown (show (wc.drewN (nq + 1)).heap[w.heap.size]? = _ from HX.out) hg0 (by simp)⟩, ⟨belowG (show Below w.heap.size w (wc.drewN (nq + 1)) from pw_below_drewN HB.out 1) hg0 (fun _ e => by cases e)⟩⟩, rfl⟩)
      case rest =>
        have HE2 := Aside0.mk HE.out
        clear HM HX HB HKX HE b0 b5 d2 d3 cx hsz
        obtain ⟨r, rfl, hr9, HG, HM, HX, HB⟩ := hcut
        have hsz := HB.out.size
        go_wp2
        go_loopw [9] (fun _ wr => ∃ (lf mz : List Int), Aside0 (KRange Try.prog 2 4 wr bj (r) kj lf) ∧ Aside0 (∀ x ∈ lf, x ∈ kj) ∧ Aside0 (IsKeys Try.prog 2 4 wr (w.heap.size + 1) mz) ∧ Aside0 (∀ x, x ∈ mz ↔ x ∈ ms ∨ (x ∈ kj ∧ x ∉ lf)) ∧ Aside0 (wr.heap[w.heap.size]? = some (.cells #[.int .i64 a0_0, .int .i64 a0_1, .int .i64 a0_2, .int .i64 a0_3, .int .i64 a0_4, .int .i64 a0_5, .string a0_6, .slice A0_7 l0_7.length c0_7] 87 (0, 0))) ∧ Aside0 (Below w.heap.size w wr))
          (fun _ wr => wr.rangeLeft bj (r))
        case atStart => exact ⟨kj, ms, HG, ⟨fun x h => h⟩, HM, ⟨by simp⟩, HX, HB⟩
        case round =>
          clear HG HM HX HB
          obtain ⟨lf, mz, HG, HS, HM, HE, HX, HB⟩ := hrel
          go_wp2_with (first | (at_next; refine wpList_next_keys rfl _ rfl 2 4 (Maps.int_keyed Try.underlying2) Try.underlying2 Try.underlying4 bj (r) kj lf rfl HG.out HS.out ?_ ?_))
          · intro hlf
            subst hlf
            go_wp2
            go_ret
            exact ⟨w.heap.size + 1, rfl, by omega, HM.out.same (behindK_nodup hn a0_0 a0_5 kss) (fun x => by rw [HE.out, behindK_mem, HJK.out, HE2.out]; simp), HB.out⟩
          · intro x w1 hwx hx hg1 hlt hgr hsz hen
            have hmlt := HM.out.lt
            have hx1 := blk_grown HX.out hgr (by intro e; have := Option.some.inj e; omega)
            have HX1 := Aside0.mk hx1
            have HB1 := Aside0.mk (belowG HB.out hgr (fun k e => by cases e; omega))
            have HM1 := Aside0.mk (HM.out.kept hgr (by intro e; have := Option.some.inj e; omega))
            have HG1 := Aside0.mk hg1
            clear hx1 hg1 hgr HX HB HM
            have hml : mz.length ≤ ms.length + kj.length := by rw [← List.length_append]; exact nodup_sub_len _ _ HM1.out.nodup (fun y hy => by rw [List.mem_append]; exact ((HE.out y).1 hy).imp id (fun h => h.1))
            (try simp only [List.length_nil, Nat.zero_add] at hml)
            have hl := HLL.out
            go_wp2_with (first | (at_mapUpdate; refine wpList_put_keys rfl _ _ _ 92 rfl 2 4 (Maps.int_keyed Try.underlying2) Try.underlying2 Try.underlying92 Try.underlying4 (w.heap.size + 1) mz rfl HM1.out (Nat.lt_trans (by omega : mz.length < 1099511627776) (by decide)) x rfl rfl hwx ?_; intro w2 hm2 hg2))
            have HG2 := Aside0.mk (HG1.out.kept hg2 (by intro e; have := Option.some.inj e; omega) (by intro e; have := Option.some.inj e; omega))
            have hlt2 := HG1.out.left_kept hg2 (by intro e; have := Option.some.inj e; omega) (by intro e; have := Option.some.inj e; omega)
            go_roundw
            case measure => rw [hlt2]; exact hlt
            case rel => (repeat apply Exists.intro); exact ⟨⟨_, _, HG2, ⟨fun y hy => HS.out y (List.mem_filter.1 hy).1⟩, ⟨hm2⟩, ⟨fun y => by rw [insK_mem, HE.out, List.mem_filter]; by_cases hy : y = x <;> simp [hy, HS.out x hx]⟩, ⟨blk_grown HX1.out hg2 (by simp)⟩, ⟨belowG HB1.out hg2 (fun k e => by cases e; omega)⟩⟩, rfl⟩
    · have hfin : ∀ W, Calls Try.prog 0 #[] W (fun _ _ => True) → True := fun _ _ => trivial
      have HF := Aside0.mk (HM.out.same (behindK_nodup hn a0_0 a0_5 kss) (fun x => by rw [HE.out, behindK_mem]; unfold jumpK; rw [← HJ0.out, hkl, if_neg hq]; simp))
      cases jm
      · go_wp2
        go_quiet (exact Calls.quiet_of ((impl_jumps.calls a0_0 false _ HJP.out).mono fun _ _ ⟨h1, ⟨nd, h2⟩⟩ => ⟨h1, nd, h2⟩))
        go_wp2
        go_ret
        exact ⟨w.heap.size + 1, rfl, by omega, HF.out, pw_below_drewN HB.out nq⟩
      · by_cases c0 : 0 ≤ a0_5
        · have c1 : ¬ a0_5 < (nb : Int) := fun h => hq ⟨rfl, c0, h⟩
          have c0b : decide (0 ≤ a0_5) = true := decide_eq_true c0
          have c1b : decide (a0_5 < (nb : Int)) = false := decide_eq_false c1
          go_wp2
          go_quiet (exact Calls.quiet_of ((impl_jumps.calls a0_0 true _ HJP.out).mono fun _ _ ⟨h1, ⟨nd, h2⟩⟩ => ⟨h1, nd, h2⟩))
          go_wp2
          go_ret
          exact ⟨w.heap.size + 1, rfl, by omega, HF.out, pw_below_drewN HB.out nq⟩
        · have c0b : decide (0 ≤ a0_5) = false := decide_eq_false c0
          go_wp2
          go_quiet (exact Calls.quiet_of ((impl_jumps.calls a0_0 true _ HJP.out).mono fun _ _ ⟨h1, ⟨nd, h2⟩⟩ => ⟨h1, nd, h2⟩))
          go_wp2
          go_ret
          exact ⟨w.heap.size + 1, rfl, by omega, HF.out, pw_below_drewN HB.out nq⟩
end Go.Proofs.Ythegbhfoleiegaa.All

/- What is live, as lists of keys: what impl.liveOf computes. -/
namespace Go.Proofs.Ythegbhfoleiegaa.All
open Go.RowKit Go.Proofs.YthegbhfoleiegaaW.PrintWords Go.Proofs.YthegbhfoleiegaaW.PrintLast Go.Proofs.YthegbhfoleiegaaW.PrintMore
set_option linter.unusedVariables false
set_option linter.unusedSimpArgs false
def readsL (i : S87) : List Int := ([i.f2, i.f3, if i.f0 = 20 ∨ i.f0 = 21 ∨ i.f0 = 46 then -1 else i.f4] ++ i.f7).filter fun x => decide (0 ≤ x)
def stepK (kss : List (List Int)) (i : S87) (nx : List Int) : List Int := aheadK i.f1 (readsL i) (behindK i.f0 i.f5 kss nx)
def blockK (kss : List (List Int)) (ins : List (S87)) : List Int := ins.foldr (stepK kss) []
def insAt (bl : List (S85)) (b : Nat) : List (S87) := (rd_T85 bl (b : Int)).f0
def stepP (bl : List (S85)) (s : List (List Int) × Bool) (b : Nat) : List (List Int) × Bool :=
  if (blockK s.1 (insAt bl b)).length = (s.1.getD b []).length then s else (s.1.set b (blockK s.1 (insAt bl b)), true)
def passK (bl : List (S85)) (kss : List (List Int)) (m : Nat) : List (List Int) × Bool := (List.range m).foldl (stepP bl) (kss, false)
def loopK (bl : List (S85)) : Nat → List (List Int) → Option (List (List Int))
  | 0, _ => none
  | k + 1, kss => if (passK bl kss bl.length).2 = true then loopK bl k (passK bl kss bl.length).1 else some (passK bl kss bl.length).1
theorem passK_succ (bl : List (S85)) (kss : List (List Int)) (m : Nat) : passK bl kss (m + 1) = stepP bl (passK bl kss m) m := by
  unfold passK
  rw [List.range_succ, List.foldl_append]
  rfl
def allR (bl : List (S85)) : List Int := bl.flatMap fun b => b.f0.flatMap readsL
def okI (k : Nat) (i : S87) : Prop := impl_Reads.f k i.f0 i.f1 i.f2 i.f3 i.f4 i.f5 i.f6 i.f7 = some (readsL i) ∧ ∀ x ∈ readsL i, (Lit.int .i64 x).wf = true
instance (k : Nat) (i : S87) : Decidable (okI k i) := by unfold okI; infer_instance
def okV (k : Nat) (bl : List (S85)) : Prop := bl.length ≤ 1000000000 ∧ (∀ b ∈ bl, b.f0.length ≤ 1000000000 ∧ ∀ i ∈ b.f0, okI k i) ∧ (allR bl).length ≤ 1000000000
instance (k : Nat) (bl : List (S85)) : Decidable (okV k bl) := by unfold okV; infer_instance
theorem loopK_mono (bl : List (S85)) : ∀ (k : Nat) (kss r : List (List Int)), loopK bl k kss = some r → loopK bl (k + 1) kss = some r
  | 0, kss, r, h => by simp [loopK] at h
  | k + 1, kss, r, h => by
    rw [loopK] at h ⊢
    split at h
    · rename_i hc
      rw [if_pos hc]
      exact loopK_mono bl k _ r h
    · rename_i hc
      rw [if_neg hc]
      exact h
/-- All keys lie among AR. -/
def SubK (AR : List Int) (kss : List (List Int)) : Prop := ∀ j, ∀ x ∈ kss.getD j [], x ∈ AR
theorem behindK_sub {AR nx : List Int} {kss : List (List Int)} (op imm : Int) (h : SubK AR kss) (hn : ∀ x ∈ nx, x ∈ AR) : ∀ x ∈ behindK op imm kss nx, x ∈ AR := fun x hx => by
  rcases (behindK_mem op imm kss nx x).1 hx with h1 | h1
  · unfold flowK at h1
    split at h1
    · cases h1
    · exact hn x h1
  · unfold jumpK at h1
    split at h1
    · exact h _ x h1
    · cases h1
theorem blockK_nodup (kss : List (List Int)) : ∀ (ins : List (S87)), (blockK kss ins).Nodup
  | [] => List.nodup_nil
  | i :: ins => aheadK_nodup (behindK_nodup (blockK_nodup kss ins) _ _ _) _ _
theorem blockK_sub {AR : List Int} {kss : List (List Int)} (h : SubK AR kss) : ∀ (ins : List (S87)), (∀ i ∈ ins, ∀ x ∈ readsL i, x ∈ AR) → ∀ x ∈ blockK kss ins, x ∈ AR
  | [], _, x, hx => by cases hx
  | i :: ins, hi, x, hx => by
    rcases (aheadK_mem _ _ _ _).1 hx with h1 | h1
    · exact behindK_sub _ _ h (blockK_sub h ins (fun i' h' => hi i' (List.mem_cons_of_mem _ h'))) x h1.1
    · exact hi i (by simp) x h1
theorem allR_mem {bl : List (S85)} {b : Nat} (hb : b < bl.length) : ∀ i ∈ insAt bl b, ∀ x ∈ readsL i, x ∈ allR bl := fun i hi x hx => by
  unfold allR
  rw [List.mem_flatMap]
  have e : insAt bl b = (bl[b]).f0 := by unfold insAt rd_T85; rw [Int.toNat_natCast, List.getD_eq_getElem?_getD, List.getElem?_eq_getElem hb]; rfl
  exact ⟨bl[b], List.getElem_mem _, List.mem_flatMap.2 ⟨i, by rw [← e]; exact hi, hx⟩⟩
theorem insAt_ok {k : Nat} {bl : List (S85)} (h : okV k bl) {b : Nat} (hb : b < bl.length) : (insAt bl b).length ≤ 1000000000 ∧ ∀ i ∈ insAt bl b, okI k i := by
  have e : insAt bl b = (bl[b]).f0 := by unfold insAt rd_T85; rw [Int.toNat_natCast, List.getD_eq_getElem?_getD, List.getElem?_eq_getElem hb]; rfl
  rw [e]
  exact h.2.1 _ (List.getElem_mem _)
theorem stepP_len (bl : List (S85)) (s : List (List Int) × Bool) (b : Nat) : (stepP bl s b).1.length = s.1.length := by unfold stepP; split <;> simp
theorem SubK_set {AR : List Int} {kss : List (List Int)} (h : SubK AR kss) (b : Nat) {ks : List Int} (hk : ∀ x ∈ ks, x ∈ AR) : SubK AR (kss.set b ks) := fun j x hx => by
  rw [List.getD_eq_getElem?_getD, List.getElem?_set] at hx
  split at hx
  · split at hx
    · exact hk x hx
    · simp at hx
  · exact h j x (by rw [List.getD_eq_getElem?_getD]; exact hx)
theorem stepP_sub {bl : List (S85)} {s : List (List Int) × Bool} {b : Nat} (hb : b < bl.length) (h : SubK (allR bl) s.1) : SubK (allR bl) (stepP bl s b).1 := by
  unfold stepP
  split
  · exact h
  · exact SubK_set h b (blockK_sub h _ (allR_mem hb))
theorem len_flatMap {α : Type} (f : α → List Int) : ∀ (l : List α) (a : α), a ∈ l → (f a).length ≤ (l.flatMap f).length
  | x :: l, a, h => by
    rw [List.flatMap_cons, List.length_append]
    rcases List.mem_cons.1 h with rfl | h
    · omega
    · have := len_flatMap f l a h
      omega
theorem allR_len {bl : List (S85)} {b : Nat} (hb : b < bl.length) : ∀ i ∈ insAt bl b, (readsL i).length ≤ (allR bl).length := fun i hi => by
  have e : insAt bl b = (bl[b]).f0 := by unfold insAt rd_T85; rw [Int.toNat_natCast, List.getD_eq_getElem?_getD, List.getElem?_eq_getElem hb]; rfl
  rw [e] at hi
  exact Nat.le_trans (len_flatMap readsL _ i hi) (len_flatMap (fun b : S85 => b.f0.flatMap readsL) bl _ (List.getElem_mem hb))
end Go.Proofs.Ythegbhfoleiegaa.All

/- Contracts of Go's library at this translation: laid by the shelf's lay-shelf.mjs and lay-plain.mjs, those that this session's claims use. -/
namespace Go.Proofs
open Go.Shelf
set_option linter.unusedVariables false
def Try.laysGg6_ren : Go.Shelf.Ren := ⟨fun | 6 => 125 | 10 => 131 | 11 => 132 | 12 => 134 | 13 => 158 | 14 => 159 | 24 => 190 | 25 => 191 | 26 => 169 | 27 => 192 | 28 => 193 | 29 => 194 | 30 => 195 | 31 => 196 | 32 => 197 | 33 => 198 | 34 => 212 | 35 => 213 | 36 => 214 | 37 => 215 | 38 => 216 | 39 => 219 | n => n, fun | 20 => 20 | 26 => 120 | 35 => 178 | 0 => 0 | 37 => 180 | 3 => 3 | 41 => 202 | 44 => 184 | 49 => 221 | 51 => 218 | 4 => 4 | 54 => 230 | 53 => 229 | 58 => 234 | 5 => 5 | 9 => 9 | 60 => 244 | 64 => 248 | 66 => 251 | 67 => 252 | 17 => 17 | 32 => 175 | 33 => 176 | 82 => 266 | 12 => 12 | 75 => 259 | 76 => 260 | 77 => 261 | 78 => 262 | 79 => 263 | 80 => 264 | n => n, fun | n => n⟩
theorem Try.laysGg6 : Go.Proofs.LaysGg.n6 Try.prog Try.laysGg6_ren := {
  mixed := by kernel_rfl
  f6 := Try.func125.trans (congrArg some (by kernel_rfl))
  f10 := Try.func131.trans (congrArg some (by kernel_rfl))
  f11 := Try.func132.trans (congrArg some (by kernel_rfl))
  f12 := Try.func134.trans (congrArg some (by kernel_rfl))
  f13 := Try.func158.trans (congrArg some (by kernel_rfl))
  f14 := Try.func159.trans (congrArg some (by kernel_rfl))
  f24 := Try.func190.trans (congrArg some (by kernel_rfl))
  f25 := Try.func191.trans (congrArg some (by kernel_rfl))
  f26 := Try.func169.trans (congrArg some (by kernel_rfl))
  f27 := Try.func192.trans (congrArg some (by kernel_rfl))
  f28 := Try.func193.trans (congrArg some (by kernel_rfl))
  f29 := Try.func194.trans (congrArg some (by kernel_rfl))
  f30 := Try.func195.trans (congrArg some (by kernel_rfl))
  f31 := Try.func196.trans (congrArg some (by kernel_rfl))
  f32 := Try.func197.trans (congrArg some (by kernel_rfl))
  f33 := Try.func198.trans (congrArg some (by kernel_rfl))
  f34 := Try.func212.trans (congrArg some (by kernel_rfl))
  f35 := Try.func213.trans (congrArg some (by kernel_rfl))
  f36 := Try.func214.trans (congrArg some (by kernel_rfl))
  f37 := Try.func215.trans (congrArg some (by kernel_rfl))
  f38 := Try.func216.trans (congrArg some (by kernel_rfl))
  f39 := Try.func219.trans (congrArg some (by kernel_rfl))
  t0 := Try.underlying0
  a0 := Try.isAgg0
  z0 := Try.sizeOf0
  v0 := Try.zeroValue0
  i0 := by kernel_rfl
  t3 := Try.underlying3
  a3 := Try.isAgg3
  z3 := Try.sizeOf3
  v3 := Try.zeroValue3
  i3 := by kernel_rfl
  t4 := Try.underlying4
  a4 := Try.isAgg4
  z4 := Try.sizeOf4
  v4 := Try.zeroValue4
  i4 := by kernel_rfl
  t5 := Try.underlying5
  a5 := Try.isAgg5
  z5 := Try.sizeOf5
  v5 := Try.zeroValue5
  i5 := by kernel_rfl
  t9 := Try.underlying9
  a9 := Try.isAgg9
  z9 := Try.sizeOf9
  v9 := Try.zeroValue9
  i9 := by kernel_rfl
  t12 := Try.underlying12
  a12 := Try.isAgg12
  z12 := Try.sizeOf12
  v12 := Try.zeroValue12
  i12 := by kernel_rfl
  t17 := Try.underlying17
  a17 := Try.isAgg17
  z17 := Try.sizeOf17
  v17 := Try.zeroValue17
  i17 := by kernel_rfl
  t20 := Try.underlying20
  a20 := Try.isAgg20
  z20 := Try.sizeOf20
  v20 := Try.zeroValue20
  i20 := by kernel_rfl
  t26 := Try.underlying120
  a26 := Try.isAgg120
  z26 := Try.sizeOf120
  v26 := Try.zeroValue120
  i26 := by kernel_rfl
  t32 := Try.underlying175
  a32 := Try.isAgg175
  z32 := Try.sizeOf175
  v32 := Try.zeroValue175
  i32 := by kernel_rfl
  t33 := Try.underlying176
  a33 := Try.isAgg176
  z33 := Try.sizeOf176
  v33 := Try.zeroValue176
  i33 := by kernel_rfl
  t35 := Try.underlying178
  a35 := Try.isAgg178
  z35 := Try.sizeOf178
  v35 := Try.zeroValue178
  i35 := by kernel_rfl
  t37 := Try.underlying180
  a37 := Try.isAgg180
  z37 := Try.sizeOf180
  v37 := Try.zeroValue180
  i37 := by kernel_rfl
  t41 := Try.underlying202
  a41 := Try.isAgg202
  z41 := Try.sizeOf202
  v41 := Try.zeroValue202
  i41 := by kernel_rfl
  t44 := Try.underlying184
  a44 := Try.isAgg184
  z44 := Try.sizeOf184
  v44 := Try.zeroValue184
  i44 := by kernel_rfl
  t49 := Try.underlying221
  a49 := Try.isAgg221
  z49 := Try.sizeOf221
  v49 := Try.zeroValue221
  i49 := by kernel_rfl
  t51 := Try.underlying218
  a51 := Try.isAgg218
  z51 := Try.sizeOf218
  v51 := Try.zeroValue218
  i51 := by kernel_rfl
  t53 := Try.underlying229
  a53 := Try.isAgg229
  z53 := Try.sizeOf229
  v53 := Try.zeroValue229
  i53 := by kernel_rfl
  t54 := Try.underlying230
  a54 := Try.isAgg230
  z54 := Try.sizeOf230
  v54 := Try.zeroValue230
  i54 := by kernel_rfl
  t58 := Try.underlying234
  a58 := Try.isAgg234
  z58 := Try.sizeOf234
  v58 := Try.zeroValue234
  i58 := by kernel_rfl
  t60 := Try.underlying244
  a60 := Try.isAgg244
  z60 := Try.sizeOf244
  v60 := Try.zeroValue244
  i60 := by kernel_rfl
  t64 := Try.underlying248
  a64 := Try.isAgg248
  z64 := Try.sizeOf248
  v64 := Try.zeroValue248
  i64 := by kernel_rfl
  t66 := Try.underlying251
  a66 := Try.isAgg251
  z66 := Try.sizeOf251
  v66 := Try.zeroValue251
  i66 := by kernel_rfl
  t67 := Try.underlying252
  a67 := Try.isAgg252
  z67 := Try.sizeOf252
  v67 := Try.zeroValue252
  i67 := by kernel_rfl
  t75 := Try.underlying259
  a75 := Try.isAgg259
  z75 := Try.sizeOf259
  v75 := Try.zeroValue259
  i75 := by kernel_rfl
  t76 := Try.underlying260
  a76 := Try.isAgg260
  z76 := Try.sizeOf260
  v76 := Try.zeroValue260
  i76 := by kernel_rfl
  t77 := Try.underlying261
  a77 := Try.isAgg261
  z77 := Try.sizeOf261
  v77 := Try.zeroValue261
  i77 := by kernel_rfl
  t78 := Try.underlying262
  a78 := Try.isAgg262
  z78 := Try.sizeOf262
  v78 := Try.zeroValue262
  i78 := by kernel_rfl
  t79 := Try.underlying263
  a79 := Try.isAgg263
  z79 := Try.sizeOf263
  v79 := Try.zeroValue263
  i79 := by kernel_rfl
  t80 := Try.underlying264
  a80 := Try.isAgg264
  z80 := Try.sizeOf264
  v80 := Try.zeroValue264
  i80 := by kernel_rfl
  t82 := Try.underlying266
  a82 := Try.isAgg266
  z82 := Try.sizeOf266
  v82 := Try.zeroValue266
  i82 := by kernel_rfl }
end Go.Proofs

/- sort.Slice at a row of int64 of the call's own, by the caller's own 'l[i] < l[j]' over the boxed row: the shelf's contract, told of rows. -/
namespace Go.Proofs.Ythegbhfoleiegaa.All
open Go.RowKit Go.Proofs.YthegbhfoleiegaaW.PrintWords Go.Proofs.YthegbhfoleiegaaW.PrintLast Go.Proofs.YthegbhfoleiegaaW.PrintMore
set_option linter.unusedVariables false
set_option linter.unusedSimpArgs false
open Go.Shelf Go.Lib Go.Sort
noncomputable def siT : TypeInfo := (Try.prog.info? 22).get (by kernel_rfl)
noncomputable def siE : TypeInfo := (Try.prog.info? 2).get (by kernel_rfl)
theorem siK (n : Nat) (h2 : 2 ≤ n) : Lib.swapperK n siE 6 = 5 := by
  have a : siE.hasPointers = false := by kernel_rfl
  have b : siE.bytes = 8 := by kernel_rfl
  have c : (n == 0) = false := by simp; omega
  have d : (n == 1) = false := by simp; omega
  simp [Lib.swapperK, a, b, c, d]
def sortI (xs : List Int) : List Int := xs.mergeSort fun x y => decide (x ≤ y)
theorem sortI_len (xs : List Int) : (sortI xs).length = xs.length := by unfold sortI; exact List.length_mergeSort _
theorem ints_sorted_eq (d d' : Array Int) (hp : PermIn 0 d.size d d') (hs : SortedIn ltInt 0 d.size d') : d' = (sortI d.toList).toArray := by
  have h := sorted_unique_holds (lt := ltInt) swo_ltInt (fun x y h1 h2 => by simp only [ltInt, decide_eq_false_iff_not] at h1 h2; omega) d d' hp hs
  have e : (fun x y : Int => !ltInt y x) = fun x y => decide (x ≤ y) := by
    funext x y
    simp only [ltInt]
    by_cases h : x ≤ y
    · first | (simp [h]; done) | (simp [h]; omega)
    · first | (simp [h]; done) | (simp [h]; omega)
  rw [e] at h
  unfold sortI
  rw [← h]
set_option maxHeartbeats 2000000 in
set_option maxRecDepth 100000 in
theorem less_ints (blk off c Bs size : Nat) (W : World) (G : Nat → Int) (hs : W.cell? ⟨Bs, 0, none⟩ = some (.slice (some ⟨blk, off, none⟩) size c))
    (hc : ∀ t, t < size → W.cell? ⟨blk, off + t, none⟩ = some (.int .i64 (G t))) (i j : Nat) (hi : i < size) (hj : j < size) :
    Calls Try.prog 126 #[.int .i64 i, .int .i64 j, .pointer (some ⟨Bs, 0, none⟩)] W fun e w' => e = .returned (.bool (decide (G i < G j))) ∧ ∃ q, w' = W.drewN q := by
  have ci := hc i hi
  have cj := hc j hj
  go_enter Try.func126, Try.ntmps126
  go_wp2
  go_quiet (fail)
  go_wp2
  go_ret
  exact ⟨rfl, nq, rfl⟩
set_option maxHeartbeats 4000000 in
set_option maxRecDepth 100000 in
theorem sort_small (blk c Bs : Nat) (d : Array Int) (h2 : 2 ≤ d.size) (h12 : d.size < 4611686018427387904) (w : World) (hH : Holds (Value.int .i64) w blk 0 d) (hblk : blk < w.heap.size)
    (hBs : w.cell? ⟨Bs, 0, none⟩ = some (.slice (some ⟨blk, 0, none⟩) d.size c)) (hlt : Bs < w.heap.size) (hne : Bs ≠ blk) :
    Calls Try.prog 125 #[.iface 22 (.slice (some ⟨blk, 0, none⟩) d.size c), .func (.func 126) #[] #[.pointer (some ⟨Bs, 0, none⟩)]] w fun e w' =>
      e = .returned (.tuple #[]) ∧ ∃ n os, w' = grow (putRow (Value.int .i64) (Sort.ahead w n) blk 0 (sortI d.toList).toArray) os := by
  have hless : LessReads Try.prog 126 #[.pointer (some ⟨Bs, 0, none⟩)] (Value.int .i64) ltInt blk 0 d.size w := by
    intro m os dk hs i j hi hj
    have e : sortWorld (Value.int .i64) w blk 0 m dk os = putRow (Value.int .i64) (grow (Sort.ahead w m) os) blk 0 dk := by
      unfold sortWorld; rw [putRow_grow _ (Sort.ahead w m) _ blk 0 _ hblk]
    have hHg : Holds (Value.int .i64) (grow (Sort.ahead w m) os) blk 0 d := holds_grow _ _ _ blk 0 d hblk (holds_ahead _ _ _ _ _ _ hH)
    refine less_ints blk 0 c Bs d.size _ (fun t => dk[t]!) ?_ (fun t ht => ?_) i j hi hj
    · rw [e, cell?_putRow_other _ _ blk 0 dk _ (Or.inl hne), cell?_grow _ _ _ hlt]
      exact hBs
    · rw [e]; exact cell?_putRow _ _ blk 0 d dk hHg hs t (by omega)
  have hS := Any.sort_Slice_sorted Try.laysGg6 22 2 siT siE (by kernel_rfl) (by kernel_rfl) (by kernel_rfl) (by kernel_rfl) 6 (fun _ => by kernel_rfl) (by kernel_rfl) (fun _ => by kernel_rfl) (Value.int .i64) (fun _ => rfl) ltInt swo_ltInt 126 _
    (enters_of Try.func126 (by kernel_rfl) rfl) blk 0 c d h2 h12 164 (by rw [siK _ h2]; kernel_rfl) true
    (fun args W => run_callFunc_extern Try.func164 (by kernel_rfl) (by kernel_rfl) (by kernel_rfl) (e := Extern.ReflectliteSwapper.swap true) (by kernel_rfl) args W) _ hless hH hblk
  change Calls Try.prog 125 _ _ _ at hS
  refine hS.mono ?_
  rintro e w' ⟨rfl, d', n, os, hp, hso, rfl⟩
  rw [ints_sorted_eq d d' hp hso]
  exact ⟨rfl, n, os, rfl⟩
set_option maxHeartbeats 4000000 in
set_option maxRecDepth 100000 in
theorem sort_tiny (p : Option Addr) (n c Bs : Nat) (h1 : n ≤ 1) (w : World) :
    Calls Try.prog 125 #[.iface 22 (.slice p n c), .func (.func 126) #[] #[.pointer (some ⟨Bs, 0, none⟩)]] w fun e w' => e = .returned (.tuple #[]) ∧ ∃ os, w' = grow w os := by
  have hK : Lib.swapperK n siE 6 = n + 1 := by
    rcases Nat.eq_zero_or_pos n with h | h
    · subst h; simp [Lib.swapperK]
    · obtain rfl : n = 1 := by omega
      simp [Lib.swapperK]
  have hS := Any.sort_Slice_tiny Try.laysGg6 22 2 siT siE (by kernel_rfl) (by kernel_rfl) (by kernel_rfl) (by kernel_rfl) 6 (fun _ => by kernel_rfl) p n c h1 (160 + n) (by
    rw [hK]
    rcases Nat.eq_zero_or_pos n with h | h
    · subst h; kernel_rfl
    · obtain rfl : n = 1 := by omega
      kernel_rfl) (.func 126) #[] #[.pointer (some ⟨Bs, 0, none⟩)] w
  change Calls Try.prog 125 _ _ _ at hS
  exact hS
section
variable {w : World} {base : Nat} {e : Nat} {ok : Nat → Prop} {v : Value} {xs : List Int}
theorem R_own_int (h : (Kd.int .i64).R e w base ok v xs) : w.ownsRow base e 1 v xs.length (xs.map (Value.int .i64)) := by
  obtain ⟨_, inner, ho, hr⟩ := h
  have e1 : inner = xs.map (Value.int .i64) := Kd.reps_encs (enc := Value.int .i64) hr
  rw [← e1]
  exact ho
theorem own_int_R (h0 : ∀ k, v.ownBlock = some k → ok k) (h : w.ownsRow base e 1 v xs.length (xs.map (Value.int .i64))) : (Kd.int .i64).R e w base ok v xs :=
  ⟨h0, _, h, Kd.reps_scalar (enc := Value.int .i64) xs⟩
end
/-- The row of the call's own, boxed at Bs, sorted by the library. -/
theorem sort_R (base : Nat) (ok : Nat → Prop) (Bs : Nat) (v : Value) (xs : List Int) (w : World) (hR : (Kd.int .i64).R 2 w base ok v xs) (hBs : w.cell? ⟨Bs, 0, none⟩ = some v) (hlt : Bs < w.heap.size) (hne : some Bs ≠ v.ownBlock) (hl : xs.length < 4611686018427387904) :
    Calls Try.prog 125 #[.iface 22 v, .func (.func 126) #[] #[.pointer (some ⟨Bs, 0, none⟩)]] w fun e w' =>
      e = .returned (.tuple #[]) ∧ (Kd.int .i64).R 2 w' base ok v (sortI xs) ∧ w.grownBy w' v.ownBlock := by
  have ho := R_own_int hR
  have h0 := hR.1
  have htiny : ∀ (os : Array Obj), xs.length ≤ 1 → (Kd.int .i64).R 2 (grow w os) base ok v (sortI xs) ∧ w.grownBy (grow w os) v.ownBlock := by
    intro os h1
    have hb : w.grownBy (grow w os) none := ⟨rfl, rfl, rfl, by simp, fun k hk _ => heap_grow_old _ _ hk⟩
    have hs : sortI xs = xs := by
      unfold sortI
      match xs, h1 with
      | [], _ => simp
      | [x], _ => simp
      | x :: y :: r, h1 => simp at h1
    rw [hs]
    exact ⟨Kd.R_grown hR hb (fun k _ => by simp), ⟨hb.os, hb.tape, hb.output, hb.size, fun i hi _ => hb.block i hi (by simp)⟩⟩
  obtain ⟨hz, ⟨rfl, hn⟩ | ⟨g, cap, cur, rfl, hb, hg, hle, hcap, hsz, htk⟩⟩ := ho
  · have hx : xs.length = 0 := by omega
    refine (sort_tiny none 0 0 Bs (by omega) w).mono ?_
    rintro e w' ⟨rfl, os, rfl⟩
    exact ⟨rfl, htiny os (by omega)⟩
  · have hg' : g < w.heap.size := blk_lt hg
    by_cases h2 : 2 ≤ xs.length
    · rw [Nat.mul_one] at htk
      have hH := holds_of_blockI hg htk
      have h := sort_small g cap Bs xs.toArray (by simpa using h2) (by simpa using hl) w hH hg' (by simpa using hBs) hlt (fun e => hne (by rw [e]; rfl))
      rw [show xs.toArray.size = xs.length by simp] at h
      refine h.mono ?_
      rintro e w' ⟨rfl, n, os, rfl⟩
      have h3 := ownsRow_sortedI (w := w) (base := base) (n := n) (os := os) (ts := sortI xs) (sortI_len xs) hb hg hle hcap hsz
      refine ⟨rfl, own_int_R h0 (by rw [sortI_len]; exact h3), ?_⟩
      exact grownBy_sortedI (g := g) _
    · refine (sort_tiny _ _ cap Bs (by omega) w).mono ?_
      rintro e w' ⟨rfl, os, rfl⟩
      exact ⟨rfl, htiny os (by omega)⟩
end Go.Proofs.Ythegbhfoleiegaa.All

/- impl.xsorted: the keys of a map of true alone, sorted: walked by hand. -/
namespace Go.Proofs.Ythegbhfoleiegaa.All
open Go.RowKit Go.Proofs.YthegbhfoleiegaaW.PrintWords Go.Proofs.YthegbhfoleiegaaW.PrintLast Go.Proofs.YthegbhfoleiegaaW.PrintMore
set_option linter.unusedVariables false
set_option linter.unusedSimpArgs false
theorem grown_cell (w : World) (a : Addr) (u : Value) : w.grownBy (w.setCell a u) (some a.block) :=
  ⟨rfl, rfl, rfl, by simp, fun i hi hne => Below.heap_setCell w a u i (fun e => hne (by rw [e]))⟩
theorem sortI_perm_eq {xs ys : List Int} (hp : xs.Perm ys) : sortI xs = sortI ys := by
  unfold sortI
  refine List.Perm.eq_of_pairwise (le := fun x y => x ≤ y) (fun a b _ _ h1 h2 => Int.le_antisymm h1 h2) ?_ ?_ ((List.mergeSort_perm _ _).trans (hp.trans (List.mergeSort_perm _ _).symm))
  · exact (List.pairwise_mergeSort (le := fun x y : Int => decide (x ≤ y)) (fun a b c h1 h2 => by simp at h1 h2 ⊢; omega) (fun a b => by simp; omega) xs).imp (fun h => by simpa using h)
  · exact (List.pairwise_mergeSort (le := fun x y : Int => decide (x ≤ y)) (fun a b c h1 h2 => by simp at h1 h2 ⊢; omega) (fun a b => by simp; omega) ys).imp (fun h => by simpa using h)
theorem nodup_push {ys : List Int} {x : Int} (h : ys.Nodup) (hn : x ∉ ys) : (ys ++ [x]).Nodup := by
  rw [List.nodup_append]
  exact ⟨h, by simp, fun a ha b hb => by rw [List.mem_singleton.1 hb]; rintro rfl; exact hn ha⟩
set_option maxHeartbeats 4000000 in
set_option maxRecDepth 100000 in
theorem xsorted_calls (b : Nat) (ks : List Int) (w : World) (h : IsKeys Try.prog 2 4 w b ks) (hl : ks.length < 1099511627776) :
    Calls Try.prog 71 #[.map (some b)] w fun e w' => ∃ v, e = .returned v ∧ (Kd.int .i64).R 2 w' w.heap.size (fun _ => True) v (sortI ks) ∧ Below w.heap.size w w' := by
  have hb := h.lt
  have HK := Aside0.mk h
  have HL := Aside0.mk hl
  clear h hl
  have B0 := Aside0.mk (blk_new w (.cells #[.slice none 0 0] 22 (0, 0)))
  have e1 : (w.alloc (.cells #[.slice none 0 0] 22 (0, 0))).heap.size = w.heap.size + 1 := by simp
  go_enter Try.func71, Try.ntmps71
  go_wp2_with (first | (at_range; refine wpList_range_keys rfl _ 92 rfl 2 4 (Maps.int_keyed Try.underlying2) Try.underlying92 b ks rfl (HK.out.alloc _) ?_; intro w0 hrg0 hg0 hs0))
  rw [e1] at hrg0 hs0
  have HG := Aside0.mk hrg0
  have HX := Aside0.mk (blk_grown B0.out hg0 (by simp))
  have HB := Aside0.mk (below_step (below_alloc (Below.refl _ _) (.cells #[.slice none 0 0] 22 (0, 0))) (Below.grown (Below.refl _ _) hg0 (Nat.le_refl _) (fun _ e => by cases e)))
  clear hrg0 hg0 B0
  go_frame
  (first | rw [e1] | skip)
  clear e1
  go_loopw [4] (fun _ wr => ∃ (lf ys : List Int) (u : Value), Aside0 (KRange Try.prog 2 4 wr b (w.heap.size + 1) ks lf) ∧ Aside0 (∀ x ∈ lf, x ∈ ks) ∧ Aside0 (wr.heap[w.heap.size]? = some (.cells #[u] 22 (0, 0))) ∧ Aside0 ((Kd.int .i64).R 2 wr w.heap.size (fun k => k ≠ w.heap.size ∧ k ≠ w.heap.size + 1) u ys) ∧ Aside0 (ys.Nodup ∧ ∀ x, x ∈ ys ↔ x ∈ ks ∧ x ∉ lf) ∧ Aside0 (Below w.heap.size w wr))
    (fun _ wr => wr.rangeLeft b (w.heap.size + 1))
  case atStart => exact ⟨ks, [], .slice none 0 0, HG, ⟨fun x h => h⟩, HX, ⟨Kd.R_nil _ _ _ _ _⟩, ⟨List.nodup_nil, by simp⟩, HB⟩
  case round =>
    clear HG HX HB
    obtain ⟨lf, ys, u, HG, HS, HX, HR, HP, HB⟩ := hrel
    obtain ⟨Au, cu, eu⟩ := Kd.R_slice HR.out
    subst eu
    have hrl := HG.out.lt
    have hyl : ys.length ≤ ks.length := nodup_sub_len _ _ HP.out.1 (fun y hy => ((HP.out.2 y).1 hy).1)
    have hne : ∀ k, (Value.slice Au ys.length cu).ownBlock = some k → k ≠ w.heap.size ∧ k ≠ w.heap.size + 1 := HR.out.1
    have hge : ∀ k, (Value.slice Au ys.length cu).ownBlock = some k → w.heap.size ≤ k := fun k hk => (HR.out.2.choose_spec.1.lt k hk).1
    have HNE := Aside0.mk hne
    have HGE := Aside0.mk hge
    clear hne hge
    go_wp2_with (first | (at_next; refine wpList_next_keys rfl _ rfl 2 4 (Maps.int_keyed Try.underlying2) Try.underlying2 Try.underlying4 b (w.heap.size + 1) ks lf rfl HG.out HS.out ?_ ?_))
    · intro hlf
      subst hlf
      have b0 := (blk_cell HX.out 0).trans rfl
      have hlt := blk_lt HX.out
      have hl := HL.out
      have hmf : ∀ (fn : Fn) (first cap : Array Value) (w : World), (Instr.makeFunc fn first cap).run Try.prog w = .ok (.func fn first cap) w := fun _ _ _ _ => rfl
      go_wp2_with (first | (go_at_call 125; refine (sort_R w.heap.size (fun k => k ≠ w.heap.size ∧ k ≠ w.heap.size + 1) w.heap.size (.slice Au ys.length cu) ys _ HR.out b0 hlt (by intro e; exact (HNE.out _ e.symm).1 rfl) (by omega)).mono ?_; rintro e w2 ⟨rfl, hr2, hg2⟩; have HR2 := Aside0.mk hr2; have HG2 := Aside0.mk hg2; have b2 := (blk_cell (blk_grown HX.out hg2 (by intro e; have h := HNE.out _ e.symm; exact h.1 rfl)) 0).trans rfl; clear hr2 hg2))
      go_ret
      have hs : sortI ys = sortI ks := by
        have hp : ys.Perm ks := (List.perm_ext_iff_of_nodup HP.out.1 HK.out.nodup).2 (fun x => by rw [HP.out.2 x]; simp)
        unfold sortI
        refine List.Perm.eq_of_pairwise (le := fun x y => x ≤ y) (fun a b _ _ h1 h2 => Int.le_antisymm h1 h2) ?_ ?_ ((List.mergeSort_perm _ _).trans (hp.trans (List.mergeSort_perm _ _).symm))
        · exact (List.pairwise_mergeSort (le := fun x y : Int => decide (x ≤ y)) (fun a b c h1 h2 => by simp at h1 h2 ⊢; omega) (fun a b => by simp; omega) ys).imp (fun h => by simpa using h)
        · exact (List.pairwise_mergeSort (le := fun x y : Int => decide (x ≤ y)) (fun a b c h1 h2 => by simp at h1 h2 ⊢; omega) (fun a b => by simp; omega) ks).imp (fun h => by simpa using h)
      rw [← hs]
      exact ⟨_, rfl, Kd.R_mono HR2.out (fun _ _ => trivial), belowG HB.out HG2.out HGE.out⟩
    · intro x w1 hwx hx hg1 hlt hgr hsz hen
      have hgl := hg1.lt
      have hx1 := blk_grown HX.out hgr (by intro e; have := Option.some.inj e; omega)
      have b1 := (blk_cell hx1 0).trans rfl
      have HX1 := Aside0.mk hx1
      have HB1 := Aside0.mk (belowG HB.out hgr (fun k e => by cases e; omega))
      have HR1 := Aside0.mk (Kd.R_grown HR.out hgr (fun k hk e => by cases e; exact hk.2 rfl))
      have HG1 := Aside0.mk hg1
      have HSZ := Aside0.mk hsz
      clear hx1 hg1 hgr HX HB HR HG hsz
      have hl := HL.out
      go_wp2_with (first | (at_builtin; refine Kd.R_append (Kd.int .i64) (w0 := w) w.heap.size rfl (.tmp 11) (.tmp 13) 22 2 (.int .i64 0) 8 rfl Try.underlying22 info2 rfl (by decide) (by decide) (.slice Au ys.length cu) ys x [.int .i64 x] (fun k => k ≠ w.heap.size ∧ k ≠ w.heap.size + 1) (fun _ => False) rfl rfl ?aP (fun _ hk => hk.elim) ?aF ?aO ?aB ?aS ?aL ?_; (case aP => exact rfl); (case aF => exact (fun k hk => by show k ≠ _ ∧ k ≠ _; have := HB1.out.size; omega)); (case aO => exact HR1.out); (case aB => exact HB1.out); (case aS => exact HB1.out.size); (case aL => omega); intro v4 w4 ho4 hb4 hg4 hat4; obtain ⟨g4, c4, e4, _, _, _⟩ := Kd.R_form ho4 (by simp); subst e4; rw [show (ys ++ [x]).length = ys.length + 1 from by simp] at ho4 hat4; have HO4 := Aside0.mk ho4; have b4 := (blk_cell (blk_grown HX1.out hg4 (by intro e; have h := HNE.out _ e.symm; exact h.1 rfl)) 0).trans rfl; have z4 := blk_frozen (blk_grown HX1.out hg4 (by intro e; have h := HNE.out _ e.symm; exact h.1 rfl)) 0))
      have hbb : ∀ k, (Value.slice Au ys.length cu).ownBlock = some k → k ≠ b := fun k hk e => by have := HGE.out k hk; omega
      have hg5 := grown_cell w4 ⟨w.heap.size, 0, none⟩ (.slice (some ⟨g4, 0, none⟩) (ys.length + 1) c4)
      have hG4 := HG1.out.kept hg4 (by intro e; exact hbb _ e.symm rfl) (by intro e; exact (HNE.out _ e.symm).2 rfl)
      have hG5 := hG4.kept hg5 (by intro e; have := Option.some.inj e; simp at this; omega) (by intro e; have := Option.some.inj e; simp at this)
      have hl4 := HG1.out.left_kept hg4 (by intro e; exact hbb _ e.symm rfl) (by intro e; exact (HNE.out _ e.symm).2 rfl)
      have hl5 := hG4.left_kept hg5 (by intro e; have := Option.some.inj e; simp at this; omega) (by intro e; have := Option.some.inj e; simp at this)
      have hx5 := blk_set (blk_grown HX1.out hg4 (by intro e; exact (HNE.out _ e.symm).1 rfl)) 0 (.slice (some ⟨g4, 0, none⟩) (ys.length + 1) c4)
      have hr5 := Kd.R_grown HO4.out hg5 (fun k hk e => by cases e; exact hk.1 rfl)
      go_roundw
      case measure => rw [hl5, hl4]; exact hlt
      case rel => first | exact ⟨_, ys ++ [x], .slice (some ⟨g4, 0, none⟩) (ys.length + 1) c4, ⟨hG5⟩, ⟨fun y hy => HS.out y (List.mem_filter.1 hy).1⟩, ⟨hx5⟩, ⟨hr5⟩, ⟨nodup_push HP.out.1 (fun h => ((HP.out.2 x).1 h).2 hx), fun y => by rw [List.mem_append, HP.out.2, List.mem_filter]; by_cases hy : y = x <;> simp [hy, HS.out x hx]⟩, ⟨belowG hb4 hg5 (fun k e => by cases e; exact Nat.le_refl _)⟩⟩ | ((repeat apply Exists.intro); exact ⟨⟨_, ys ++ [x], .slice (some ⟨g4, 0, none⟩) (ys.length + 1) c4, ⟨hG5⟩, ⟨fun y hy => HS.out y (List.mem_filter.1 hy).1⟩, ⟨hx5⟩, ⟨hr5⟩, ⟨nodup_push HP.out.1 (fun h => ((HP.out.2 x).1 h).2 hx), fun y => by rw [List.mem_append, HP.out.2, List.mem_filter]; by_cases hy : y = x <;> simp [hy, HS.out x hx]⟩, ⟨belowG hb4 hg5 (fun k e => by cases e; exact Nat.le_refl _)⟩⟩, rfl⟩)
end Go.Proofs.Ythegbhfoleiegaa.All

/- impl.liveOf: walked by hand. -/
namespace Go.Proofs.Ythegbhfoleiegaa.All
open Go.RowKit Go.Proofs.YthegbhfoleiegaaW.PrintWords Go.Proofs.YthegbhfoleiegaaW.PrintLast Go.Proofs.YthegbhfoleiegaaW.PrintMore
set_option linter.unusedVariables false
set_option linter.unusedSimpArgs false
theorem IsKeys.len {P : Program} {k e : TypeId} {w : World} {b : Nat} {ks : List Int} (h : IsKeys P k e w b ks) {t : TypeId} (ht : P.underlying t = some (.map k e)) (ty : TypeId) : (Builtin.len_ #[t] ty #[.map (some b)]).run P w = .ok (.int .i64 (ks.length : Nat)) w := by
  obtain ⟨D, h1, h2⟩ := h
  rw [← h2.1]
  exact h1.len ht ty
theorem IsKeys.ne_cells {P : Program} {k e : TypeId} {w : World} {b g : Nat} {ks : List Int} (h : IsKeys P k e w b ks) {cs : Array Value} {t : TypeId} {sh : Nat × Nat} (hg : w.heap[g]? = some (.cells cs t sh)) : b ≠ g := by
  obtain ⟨D, ⟨es, clock, hb, _⟩, _⟩ := h
  rintro rfl
  rw [hb] at hg
  cases hg
theorem grown_cell' (w : World) (a : Addr) (u : Value) : w.grownBy (w.setCell a u) (some a.block) :=
  ⟨rfl, rfl, rfl, by simp, fun i hi hne => Below.heap_setCell w a u i (fun e => hne (by rw [e]))⟩
/-- The state of liveOf. -/
structure LI (w W : World) (a0_0 : Int) (v1 : Value) (A2 : Option Addr) (n c2 : Nat) (vb : Value) (bs : List Nat) (kss : List (List Int)) : Prop where
  hb : Below w.heap.size w W
  b0 : W.heap[w.heap.size]? = some (.cells #[.int .i64 a0_0, v1, .slice A2 n c2] 29 (0, 0))
  b1 : W.heap[w.heap.size + 1]? = some (.cells #[.int .i64 a0_0, v1, .slice A2 n c2, vb] 102 (0, 0))
  r : KM.R 92 W w.heap.size (fun k => k ≠ w.heap.size ∧ k ≠ w.heap.size + 1) vb bs
  hl : bs.length = kss.length
  ks : ∀ j, j < kss.length → IsKeys Try.prog 2 4 W (bs.getD j 0) (kss.getD j [])
  lo : ∀ j, j < kss.length → w.heap.size ≤ bs.getD j 0
theorem LI.below {w W W' : World} {a0_0 : Int} {v1 : Value} {A2 : Option Addr} {n c2 : Nat} {vb : Value} {bs : List Nat} {kss : List (List Int)} (h : LI w W a0_0 v1 A2 n c2 vb bs kss) (hb : Below W.heap.size W W') : LI w W' a0_0 v1 A2 n c2 vb bs kss :=
  ⟨below_step h.hb hb, blk_below h.b0 hb, blk_below h.b1 hb, Kd.R_below h.r hb, h.hl, fun j hj => (h.ks j hj).below hb, h.lo⟩
theorem LI.alloc {w W : World} {a0_0 : Int} {v1 : Value} {A2 : Option Addr} {n c2 : Nat} {vb : Value} {bs : List Nat} {kss : List (List Int)} (h : LI w W a0_0 v1 A2 n c2 vb bs kss) (o : Obj) : LI w (W.alloc o) a0_0 v1 A2 n c2 vb bs kss := h.below (below_alloc (Below.refl _ _) o)
theorem LI.drewN {w W : World} {a0_0 : Int} {v1 : Value} {A2 : Option Addr} {n c2 : Nat} {vb : Value} {bs : List Nat} {kss : List (List Int)} (h : LI w W a0_0 v1 A2 n c2 vb bs kss) (m : Nat) : LI w (W.drewN m) a0_0 v1 A2 n c2 vb bs kss := h.below (pw_below_drewN (Below.refl _ _) m)
theorem LI.lt {w W : World} {a0_0 : Int} {v1 : Value} {A2 : Option Addr} {n c2 : Nat} {vb : Value} {bs : List Nat} {kss : List (List Int)} (h : LI w W a0_0 v1 A2 n c2 vb bs kss) : w.heap.size + 1 < W.heap.size := blk_lt h.b1
theorem LI.start (w : World) (a0_0 : Int) (v1 : Value) (A2 : Option Addr) (n c2 : Nat) : LI w ((w.alloc (.cells #[.int .i64 a0_0, v1, .slice A2 n c2] 29 (0, 0))).alloc (.cells #[.int .i64 a0_0, v1, .slice A2 n c2, .slice none 0 0] 102 (0, 0))) a0_0 v1 A2 n c2 (.slice none 0 0) [] [] := by
  have e2 : (w.alloc (.cells #[.int .i64 a0_0, v1, .slice A2 n c2] 29 (0, 0))).heap.size = w.heap.size + 1 := by simp
  refine ⟨below_alloc (below_alloc (Below.refl _ _) _) _, blk_alloc (blk_new w _) _, ?_, Kd.R_nil _ _ _ _ _, rfl, fun j hj => (by cases hj), fun j hj => (by cases hj)⟩
  rw [← e2]
  exact blk_new _ _
/-- A new empty map is appended. -/
theorem LI.push {w W w4 : World} {a0_0 : Int} {v1 : Value} {A2 : Option Addr} {n c2 : Nat} {vb v4 : Value} {bs : List Nat} {kss : List (List Int)} (h : LI w W a0_0 v1 A2 n c2 vb bs kss) (ks0 : List Int) (b : Nat) (hk : IsKeys Try.prog 2 4 W b ks0) (hlo : w.heap.size ≤ b)
    (h4 : KM.R 92 w4 w.heap.size (fun k => k ≠ w.heap.size ∧ k ≠ w.heap.size + 1) v4 (bs ++ [b])) (hb4 : Below w.heap.size w w4) (hg : W.grownBy w4 vb.ownBlock) :
    LI w (w4.setCell ⟨w.heap.size + 1, 3, none⟩ v4) a0_0 v1 A2 n c2 v4 (bs ++ [b]) (kss ++ [ks0]) := by
  have hn := h.r.1
  have hne0 : some w.heap.size ≠ vb.ownBlock := fun e => (hn _ e.symm).1 rfl
  have hne1 : some (w.heap.size + 1) ≠ vb.ownBlock := fun e => (hn _ e.symm).2 rfl
  have g5 := grown_cell' w4 ⟨w.heap.size + 1, 3, none⟩ v4
  have hks : ∀ (x : Nat) (ks : List Int), IsKeys Try.prog 2 4 W x ks → IsKeys Try.prog 2 4 (w4.setCell ⟨w.heap.size + 1, 3, none⟩ v4) x ks := fun x ks hx => by
    have h1 : x ≠ w.heap.size + 1 := hx.ne_cells h.b1
    have h2 : some x ≠ vb.ownBlock := fun e => by
      obtain ⟨A, cc, hv⟩ := Kd.R_slice h.r
      rcases Nat.eq_zero_or_pos bs.length with h0 | h0
      · obtain ⟨_, inner, ho, _⟩ := h.r
        obtain ⟨hz, ⟨hv0, _⟩ | ⟨g, cap, cur, hv0, hb, hg, _⟩⟩ := ho
        · rw [hv0] at e; cases e
        · rw [hv0] at e
          cases e
          exact hx.ne_cells hg rfl
      · obtain ⟨g, cap, hv0, _, _, cells, hg⟩ := Kd.R_form h.r h0
        rw [hv0] at e
        cases e
        exact hx.ne_cells hg rfl
    exact ((hx.kept hg h2).kept g5 (by intro e; exact h1 (Option.some.inj e)))
  refine ⟨belowG hb4 g5 (fun k e => by cases e; exact Nat.le_succ _), ?_, blk_set (blk_grown h.b1 hg hne1) 3 v4, Kd.R_grown h4 g5 (fun k hk e => by cases e; exact hk.2 rfl), by simp [h.hl], fun j hj => ?_, fun j hj => ?_⟩
  · exact blk_grown (blk_grown h.b0 hg hne0) g5 (by intro e; have := Option.some.inj e; simp at this)
  · rw [List.length_append, List.length_singleton] at hj
    by_cases hj2 : j < kss.length
    · rw [List.getD_eq_getElem?_getD, List.getD_eq_getElem?_getD, List.getElem?_append_left (by rw [h.hl]; exact hj2), List.getElem?_append_left hj2, ← List.getD_eq_getElem?_getD, ← List.getD_eq_getElem?_getD]
      exact hks _ _ (h.ks j hj2)
    · have hj3 : j = kss.length := by omega
      subst hj3
      rw [List.getD_eq_getElem?_getD, List.getD_eq_getElem?_getD, ← h.hl, List.getElem?_concat_length, h.hl, List.getElem?_concat_length]
      exact hks _ _ hk
  · rw [List.length_append, List.length_singleton] at hj
    by_cases hj2 : j < kss.length
    · rw [List.getD_eq_getElem?_getD, List.getElem?_append_left (by rw [h.hl]; exact hj2), ← List.getD_eq_getElem?_getD]
      exact h.lo j hj2
    · have hj3 : j = kss.length := by omega
      subst hj3
      rw [List.getD_eq_getElem?_getD, ← h.hl, List.getElem?_concat_length]
      exact hlo
theorem LI.set {w W : World} {a0_0 : Int} {v1 : Value} {A2 : Option Addr} {n c2 : Nat} {g m cap : Nat} {bs : List Nat} {kss : List (List Int)} (h : LI w W a0_0 v1 A2 n c2 (.slice (some ⟨g, 0, none⟩) m cap) bs kss) (hm : m = bs.length) (i : Nat) (hi : i < kss.length) (ks0 : List Int) (b : Nat) (hk : IsKeys Try.prog 2 4 W b ks0) (hlo : w.heap.size ≤ b) :
    LI w (W.setCell ⟨g, i, none⟩ (.map (some b))) a0_0 v1 A2 n c2 (.slice (some ⟨g, 0, none⟩) m cap) (bs.set i b) (kss.set i ks0) := by
  have hn := h.r.1 g rfl
  have g5 := grown_cell' W ⟨g, i, none⟩ (.map (some b))
  obtain ⟨g', cap', hv0, hbg, _, cells, hg⟩ := Kd.R_form h.r (by rw [h.hl]; omega)
  injection hv0 with e1 e2 e3
  cases e1
  have hks : ∀ (x : Nat) (ks : List Int), IsKeys Try.prog 2 4 W x ks → IsKeys Try.prog 2 4 (W.setCell ⟨g, i, none⟩ (.map (some b))) x ks := fun x ks hx => hx.kept g5 (by intro e; exact hx.ne_cells hg (Option.some.inj e))
  have hr := Kd.R_putn h.r (i : Int) b
  rw [Int.toNat_natCast] at hr
  refine ⟨belowG h.hb g5 (fun k e => by cases e; exact hbg), blk_grown h.b0 g5 (by intro e; exact hn.1 (Option.some.inj e).symm), blk_grown h.b1 g5 (by intro e; exact hn.2 (Option.some.inj e).symm), hr, by simp [h.hl], fun j hj => ?_, fun j hj => ?lo2⟩
  case lo2 =>
    rw [List.length_set] at hj
    rw [List.getD_eq_getElem?_getD, List.getElem?_set]
    by_cases hij : i = j
    · subst hij
      simp [hi, h.hl]
      exact hlo
    · rw [if_neg hij, ← List.getD_eq_getElem?_getD]
      exact h.lo j hj
  rw [List.length_set] at hj
  rw [List.getD_eq_getElem?_getD, List.getD_eq_getElem?_getD, List.getElem?_set, List.getElem?_set]
  by_cases hij : i = j
  · subst hij
    simp [hi, h.hl]
    exact hks _ _ hk
  · rw [if_neg hij, if_neg hij, ← List.getD_eq_getElem?_getD, ← List.getD_eq_getElem?_getD]
    exact hks _ _ (h.ks j hj)
set_option maxHeartbeats 8000000 in
set_option maxRecDepth 100000 in
theorem liveOf_calls (k : Nat) (a0_0 : Int) (A0_1 : Option Addr) (c0_1 : Nat) (l0_1 : List Int) (A0_2 : Option Addr) (c0_2 : Nat) (l0_2 : List (S85)) (r : List (List Int)) (w : World)
    (hr0_2 : Kd.C k85 w A0_2 l0_2.length l0_2) (hc0_2 : l0_2.length ≤ c0_2) (hok : okV k l0_2) (h : loopK l0_2 k (List.replicate l0_2.length []) = some r) :
    Calls Try.prog 70 #[.agg #[.int .i64 a0_0, .slice A0_1 l0_1.length c0_1, .slice A0_2 l0_2.length c0_2]] w fun e w' => ∃ (vb : Value) (bs : List Nat), e = .returned (.pointer (some ⟨w.heap.size + 1, 0, none⟩)) ∧ LI w w' a0_0 (.slice A0_1 l0_1.length c0_1) A0_2 l0_2.length c0_2 vb bs r ∧ r.length = l0_2.length ∧ SubK (allR l0_2) r := by
  have HR := Aside0.mk hr0_2
  have HOK := Aside0.mk hok
  have H := Aside0.mk h
  have hn9 := hok.1
  clear hr0_2 hok h
  have hu1 := Try.underlying29
  have hu2 := Try.underlying102
  have hu3 := Try.underlying85
  have hmm := @run_makeMap Try.prog
  have HI := Aside0.mk (LI.start w a0_0 (.slice A0_1 l0_1.length c0_1) A0_2 l0_2.length c0_2)
  have b0 := (blk_cell (blk_new w (.cells #[.int .i64 a0_0, .slice A0_1 l0_1.length c0_1, .slice A0_2 l0_2.length c0_2] 29 (0, 0))) 2).trans rfl
  have e1 : (w.alloc (.cells #[.int .i64 a0_0, .slice A0_1 l0_1.length c0_1, .slice A0_2 l0_2.length c0_2] 29 (0, 0))).heap.size = w.heap.size + 1 := by simp
  go_enter Try.func70, Try.ntmps70
  go_wp2
  go_loopw [15] (fun v wr => ∃ (m : Nat) (vb : Value) (bs : List Nat), m ≤ l0_2.length ∧ v = .int .i64 (m : Int) ∧ Aside0 (LI w wr a0_0 (.slice A0_1 l0_1.length c0_1) A0_2 l0_2.length c0_2 vb bs (List.replicate m []))) (fun v _ => l0_2.length - (intOf v).toNat)
  case atStart => exact ⟨0, .slice none 0 0, [], Nat.zero_le _, rfl, HI⟩
  case round =>
    clear HI b0 e1
    obtain ⟨m, vb, bs, hm, rfl, HI⟩ := hrel
    by_cases hlm : m < l0_2.length
    · obtain ⟨A3, c3, e3⟩ := Kd.R_slice HI.out.r
      subst e3
      have hbl : bs.length = m := by have := HI.out.hl; simpa using this
      have b3 := (blk_cell HI.out.b1 3).trans rfl
      have hlt := HI.out.lt
      have HI1 := Aside0.mk (HI.out.alloc (.map #[] 0))
      have hmk := IsKeys.made wr Try.prog 2 4
      have HMK := Aside0.mk hmk
      have hb9 : bs.length < 1000000000 := by omega
      have HBL := Aside0.mk hbl
      clear hmk hbl
      have e5 : (wr.alloc (.map #[] 0)).heap.size = wr.heap.size + 1 := by simp
      have E5 := Aside0.mk e5
      clear e5
      go_wp2_with (first | (at_builtin; refine Kd.R_append KM (w0 := w) w.heap.size rfl (.tmp 21) (.tmp 23) 100 92 (.map none) 8 rfl Try.underlying100 (by kernel_rfl) rfl (by decide) (by decide) (.slice A3 bs.length c3) bs wr.heap.size [.map (some wr.heap.size)] (fun k => k ≠ w.heap.size ∧ k ≠ w.heap.size + 1) (fun _ => False) rfl (by show Value.slice (some ⟨wr.heap.size + 1, 0, none⟩) 1 1 = _; rw [E5.out]) ?aP (fun _ hk => hk.elim) ?aF ?aO ?aB ?aS ?aL ?_; (case aP => exact rfl); (case aF => exact (fun k hk => by show k ≠ _ ∧ k ≠ _; have := E5.out; omega)); (case aO => exact HI1.out.r); (case aB => exact HI1.out.hb); (case aS => exact HI1.out.hb.size); (case aL => omega); intro v4 w4 ho4 hb4 hg4 hat4; obtain ⟨g4, c4, e4, _, _, _⟩ := Kd.R_form ho4 (by simp); subst e4; have HP := Aside0.mk (HI1.out.push [] wr.heap.size HMK.out HI.out.hb.size ho4 hb4 hg4); rw [show (bs ++ [wr.heap.size]).length = bs.length + 1 from by simp] at HP; have b4 := (blk_cell (blk_grown HI1.out.b1 hg4 (by intro e; have h := HI1.out.r.1 _ e.symm; exact h.2 rfl)) 3).trans rfl; have z4 := blk_frozen (blk_grown HI1.out.b1 hg4 (by intro e; have h := HI1.out.r.1 _ e.symm; exact h.2 rfl)) 3; clear ho4 hb4 hg4 hat4))
      have hrep : List.replicate m [] ++ [[]] = List.replicate (m + 1) ([] : List Int) := by rw [← List.replicate_succ']
      have HR5 := Aside0.mk hrep
      clear hrep
      go_roundw
      case measure => simp [intOf]; omega
      case rel => first | exact ⟨m + 1, _, _, by omega, by go_num, ⟨by rw [← HR5.out]; exact HP.out⟩⟩ | ((repeat apply Exists.intro); exact ⟨⟨m + 1, _, _, by omega, by go_num, ⟨by rw [← HR5.out]; exact HP.out⟩⟩, rfl⟩)
    · have hme : m = l0_2.length := by omega
      subst hme
      go_wp2
      go_loopg [4] k (fun gk v wr => ∃ (again : Bool) (kss : List (List Int)) (vb : Value) (bs : List Nat), v = .bool again ∧ Aside0 (LI w wr a0_0 (.slice A0_1 l0_1.length c0_1) A0_2 l0_2.length c0_2 vb bs kss) ∧ Aside0 (kss.length = l0_2.length) ∧ Aside0 (SubK (allR l0_2) kss) ∧ Aside0 (if again = true then loopK l0_2 gk kss = some r else kss = r))
      case atStart => exact ⟨true, _, vb, bs, rfl, HI, ⟨by simp⟩, ⟨fun j x hx => by rw [List.getD_eq_getElem?_getD, List.getElem?_replicate] at hx; split at hx <;> cases hx⟩, ⟨by rw [if_pos rfl]; exact H.out⟩⟩
      case round =>
        clear HI H
        obtain ⟨again, kss, vb, bs, rfl, HI, HL, HS, H⟩ := hrel
        cases again with
        | false =>
          have hk : kss = r := H.out
          subst hk
          go_wp2
          go_ret
          first | exact ⟨rfl, ⟨vb, bs, HI.out⟩, HL.out, HS.out⟩ | exact ⟨vb, bs, rfl, HI.out, HL.out, HS.out⟩
        | true =>
          cases gk with
          | zero => exact absurd H.out (by simp [loopK])
          | succ gk =>
            have h2 : loopK l0_2 (gk + 1) kss = some r := H.out
            rw [loopK] at h2
            have H2 := Aside0.mk h2
            clear h2 H
            have b2 := (blk_cell HI.out.b0 2).trans rfl
            go_wp2
            go_loopw [4, 32] (fun v4 v32 wr => ∃ (m : Nat) (vb : Value) (bs : List Nat), m ≤ l0_2.length ∧ v4 = .bool (passK l0_2 kss m).2 ∧ v32 = .int .i64 (m : Int) ∧ Aside0 (LI w wr a0_0 (.slice A0_1 l0_1.length c0_1) A0_2 l0_2.length c0_2 vb bs (passK l0_2 kss m).1) ∧ Aside0 ((passK l0_2 kss m).1.length = l0_2.length) ∧ Aside0 (SubK (allR l0_2) (passK l0_2 kss m).1)) (fun _ v _ => l0_2.length - (intOf v).toNat)
            case atStart => exact ⟨0, vb, bs, Nat.zero_le _, rfl, rfl, HI, HL, HS⟩
            case round =>
              clear HI HL HS b2
              obtain ⟨m, vb, bs, hm, rfl, rfl, HI, HL, HS⟩ := hrel
              by_cases hlm : m < l0_2.length
              · have p3 : (0 : Int) ≤ (m : Int) := by omega
                have q3 : (m : Int) < (l0_2.length : Int) := by omega
                obtain ⟨ad, A5, c5, e5, hx0, hl5, hi5⟩ := at_T85 HR.out (m : Int) p3 q3
                have HR5 := Aside0.mk hi5
                cases e5
                replace hx0 := (HI.out.hb.cell (World.block_lt_of_cell? w _ hx0)).trans hx0
                rw [Int.toNat_natCast] at hx0
                obtain ⟨kc, hkc⟩ : ∃ p, p = passK l0_2 kss m := ⟨_, rfl⟩
                obtain ⟨is, his⟩ : ∃ is, is = (rd_T85 l0_2 (m : Int)).f0 := ⟨_, rfl⟩
                rw [← his] at hx0 hl5 HR5
                have his2 : insAt l0_2 m = is := his.symm
                obtain ⟨hi9, hio⟩ := insAt_ok HOK.out hlm
                have har := allR_mem hlm
                rw [his2] at hi9 hio har
                have HIO := Aside0.mk hio
                have HAR := Aside0.mk har
                have HKC := Aside0.mk hkc
                have HIS := Aside0.mk his2
                rw [← hkc] at HI HL HS
                simp only [← hkc]
                obtain ⟨kl, ag⟩ := kc
                clear hkc his his2 hio har hi5
                have hlt := HI.out.lt
                have bk6 := blk_new wr (.cells #[.slice none 0 0] 85 (0, 0))
                have z6 := blk_frozen bk6 0
                have bk7 := blk_set bk6 0 (.slice A5 is.length c5)
                have c7 := (blk_cell bk7 0).trans rfl
                have HALN := Aside0.mk (allR_len hlm)
                go_wp2
                have e7 : (wr.alloc (.cells #[.slice A5 is.length c5] 85 (0, 0))).heap.size = wr.heap.size + 1 := by simp
                have hmk := IsKeys.made (wr.alloc (.cells #[.slice A5 is.length c5] 85 (0, 0))) Try.prog 2 4
                rw [e7] at hmk
                have HMK := Aside0.mk hmk
                have HI4 := Aside0.mk ((HI.out.alloc (.cells #[.slice A5 is.length c5] 85 (0, 0))).alloc (.map #[] 0))
                have HBX := Aside0.mk (blk_alloc (blk_new wr (.cells #[.slice A5 is.length c5] 85 (0, 0))) (.map #[] 0))
                obtain ⟨g6, hg6⟩ : ∃ g6, g6 = wr.heap.size := ⟨_, rfl⟩
                have hgsz : w.heap.size ≤ g6 := by rw [hg6]; exact HI.out.hb.size
                rw [← hg6] at HBX ⊢
                rw [← hg6] at HMK
                clear bk6 z6 bk7 c7 hx0 e7 hmk
                go_loopw [7, 8] (fun v7 v8 wl => ∃ (j bn : Nat), j ≤ is.length ∧ w.heap.size ≤ bn ∧ v7 = .map (some bn) ∧ v8 = .int .i64 ((j : Int) - 1) ∧ Aside0 (IsKeys Try.prog 2 4 wl bn (blockK kl (is.drop j))) ∧ Aside0 (LI w wl a0_0 (.slice A0_1 l0_1.length c0_1) (some ad) l0_2.length c0_2 vb bs kl) ∧ Aside0 (wl.heap[g6]? = some (.cells #[.slice A5 is.length c5] 85 (0, 0)))) (fun _ v8 _ => (intOf v8 + 1).toNat)
                case atStart => exact ⟨is.length, g6 + 1, Nat.le_refl _, Nat.le_succ_of_le hgsz, rfl, rfl, ⟨by rw [List.drop_length]; exact HMK.out⟩, HI4, HBX⟩
                case round =>
                  clear HMK HI4 HBX HI
                  obtain ⟨j, bn, hj, hbn, rfl, rfl, HMK, HI, HBX⟩ := hrel
                  cases j with
                  | zero =>
                    have hz : is.drop 0 = is := List.drop_zero
                    rw [hz] at HMK
                    obtain ⟨now, hnow⟩ : ∃ now, now = blockK kl is := ⟨_, rfl⟩
                    rw [← hnow] at HMK
                    have hbsl : bs.length = l0_2.length := HI.out.hl.trans HL.out
                    obtain ⟨g8, cap8, e8, hg8, hg9, cells8, hcells8⟩ := Kd.R_form HI.out.r (by omega)
                    subst e8
                    rw [hbsl] at HI
                    obtain ⟨c8, z8⟩ := Kd.R_celln 0 HI.out.r (m : Int) p3 q3
                    rw [Int.toNat_natCast] at c8 z8
                    obtain ⟨bm, hbm⟩ : ∃ bm, bm = bs.getD m 0 := ⟨_, rfl⟩
                    obtain ⟨km, hkm⟩ : ∃ km, km = kl.getD m [] := ⟨_, rfl⟩
                    have hrx : rdOf 0 bs (m : Int) = bm := by rw [hbm]; simp [rdOf, List.getD_eq_getElem?_getD]
                    rw [hrx] at c8
                    have hkx := HI.out.ks m (by rw [HL.out]; exact hlm)
                    rw [← hbm, ← hkm] at hkx
                    have l1 : ∀ n ty, (Builtin.len_ #[92] ty #[.map (some bn)]).run Try.prog (wr.drewN n) = .ok (.int .i64 (now.length : Nat)) (wr.drewN n) := fun n ty => (HMK.out.drewN n).len Try.underlying92 ty
                    have l2 : ∀ n ty, (Builtin.len_ #[92] ty #[.map (some bm)]).run Try.prog (wr.drewN n) = .ok (.int .i64 (km.length : Nat)) (wr.drewN n) := fun n ty => (hkx.drewN n).len Try.underlying92 ty
                    have b3 := (blk_cell HI.out.b1 3).trans rfl
                    have hpass : passK l0_2 kss (m + 1) = if now.length = km.length then (kl, ag) else (kl.set m now, true) := by rw [passK_succ, ← HKC.out]; unfold stepP; rw [HIS.out, ← hnow, ← hkm]
                    have HPS := Aside0.mk hpass
                    have hsub2 : SubK (allR l0_2) (passK l0_2 kss (m + 1)).1 := by rw [passK_succ, ← HKC.out]; exact stepP_sub hlm HS.out
                    have hlen2 : (passK l0_2 kss (m + 1)).1.length = l0_2.length := by rw [passK_succ, ← HKC.out, stepP_len]; exact HL.out
                    have HS2 := Aside0.mk hsub2
                    have HL2 := Aside0.mk hlen2
                    have ez : ((0 : Nat) : Int) - 1 = -1 := by omega
                    rw [ez]
                    clear hz hnow hbm hkm hrx hkx hpass hsub2 hlen2 ez hg8 hg9 hcells8 hbsl
                    by_cases hnl : now.length = km.length
                    · have hb1 : (((now.length : Nat) : Int) != ((km.length : Nat) : Int)) = false := by rw [hnl]; simp
                      go_wp2
                      go_quiet (fail)
                      go_wp2
                      have hp2 : passK l0_2 kss (m + 1) = (kl, ag) := by rw [HPS.out, if_pos hnl]
                      go_roundw
                      case measure => simp [intOf]; omega
                      case rel => first | exact ⟨m + 1, _, bs, by omega, by rw [hp2], by go_num, ⟨by rw [hp2]; exact HI.out.drewN nq⟩, HL2, HS2⟩ | ((repeat apply Exists.intro); exact ⟨⟨m + 1, _, bs, by omega, by rw [hp2], by go_num, ⟨by rw [hp2]; exact HI.out.drewN nq⟩, HL2, HS2⟩, rfl⟩)
                    · have hb1 : (((now.length : Nat) : Int) != ((km.length : Nat) : Int)) = true := by simp; omega
                      go_wp2
                      go_quiet (fail)
                      go_wp2
                      have hp2 : passK l0_2 kss (m + 1) = (kl.set m now, true) := by rw [HPS.out, if_neg hnl]
                      have HI9 := Aside0.mk ((HI.out.drewN nq).set (HI.out.hl.trans HL.out).symm m (by rw [HL.out]; exact hlm) now bn (HMK.out.drewN nq) hbn)
                      go_roundw
                      case measure => simp [intOf]; omega
                      case rel => first | exact ⟨m + 1, _, _, by omega, by rw [hp2], by go_num, ⟨by rw [hp2]; exact HI9.out⟩, HL2, HS2⟩ | ((repeat apply Exists.intro); exact ⟨⟨m + 1, _, _, by omega, by rw [hp2], by go_num, ⟨by rw [hp2]; exact HI9.out⟩, HL2, HS2⟩, rfl⟩)
                  | succ j =>
                    have ej : ((j + 1 : Nat) : Int) - 1 = (j : Int) := by omega
                    rw [ej]
                    have EJ := Aside0.mk ej
                    have p4 : (0 : Int) ≤ (j : Int) := by omega
                    have q4 : (j : Int) < (is.length : Int) := by omega
                    obtain ⟨ad7, A7, c7, e7, hx0, hx1, hx2, hx3, hx4, hx5, hx6, hx7, hl7, hi7⟩ := at_T87 HR5.out (j : Int) p4 q4
                    cases e7
                    obtain ⟨i, hi⟩ : ∃ i, i = rd_T87 is (j : Int) := ⟨_, rfl⟩
                    rw [← hi] at hx0 hx1 hx2 hx3 hx4 hx5 hx6 hx7 hl7 hi7
                    have him : i ∈ is := by rw [hi]; unfold rd_T87; rw [Int.toNat_natCast, List.getD_eq_getElem?_getD, List.getElem?_eq_getElem (by omega)]; exact List.getElem_mem _
                    have hdr : is.drop j = i :: is.drop (j + 1) := by rw [List.drop_eq_getElem_cons (by omega : j < is.length), hi]; unfold rd_T87; rw [Int.toNat_natCast, List.getD_eq_getElem?_getD, List.getElem?_eq_getElem (by omega)]; rfl
                    obtain ⟨nx, hnx⟩ : ∃ nx, nx = blockK kl (is.drop (j + 1)) := ⟨_, rfl⟩
                    have hbk : blockK kl (is.drop j) = stepK kl i nx := by rw [hdr, hnx]; rfl
                    rw [← hnx] at HMK
                    have hnxs : ∀ x ∈ nx, x ∈ allR l0_2 := by rw [hnx]; exact blockK_sub HS.out _ (fun i' h' => HAR.out i' (List.mem_of_mem_drop h'))
                    have hnl : nx.length ≤ (allR l0_2).length := nodup_sub_len _ _ HMK.out.nodup hnxs
                    have hbl : (behindK i.f0 i.f5 kl nx).length ≤ (allR l0_2).length := nodup_sub_len _ _ (behindK_nodup HMK.out.nodup _ _ _) (behindK_sub _ _ HS.out hnxs)
                    have hrl : (readsL i).length ≤ (allR l0_2).length := HALN.out i (by rw [HIS.out]; exact him)
                    have hal := HOK.out.2.2
                    have hkl : ∀ q, q < l0_2.length → (kl.getD q []).length < 549755813888 := fun q hq => Nat.lt_of_le_of_lt (nodup_sub_len _ _ (HI.out.ks q (by rw [HL.out]; exact hq)).nodup (HS.out q)) (by omega)
                    have hio := HIO.out i him
                    have HX := Aside0.mk (And.intro hx0 (And.intro hx1 (And.intro hx2 (And.intro hx3 (And.intro hx4 (And.intro hx5 (And.intro hx6 hx7)))))))
                    have HI7 := Aside0.mk hi7
                    have HBK := Aside0.mk hbk
                    have HKL := Aside0.mk hkl
                    have HOI := Aside0.mk hio
                    have HNL := Aside0.mk (And.intro hnl (And.intro hbl (And.intro hrl hal)))
                    clear hi hdr hnx hbk hnxs hnl hbl hrl hal hkl hio hi7 hx0 hx1 hx2 hx3 hx4 hx5 hx6 hx7 hg6 ej him
                    go_wp2
                    rw [Int.toNat_natCast] at HX
                    have x0 := (HI.out.hb.cell (World.block_lt_of_cell? w _ HX.out.1)).trans HX.out.1; have x1 := (HI.out.hb.cell (World.block_lt_of_cell? w _ HX.out.2.1)).trans HX.out.2.1; have x2 := (HI.out.hb.cell (World.block_lt_of_cell? w _ HX.out.2.2.1)).trans HX.out.2.2.1; have x3 := (HI.out.hb.cell (World.block_lt_of_cell? w _ HX.out.2.2.2.1)).trans HX.out.2.2.2.1; have x4 := (HI.out.hb.cell (World.block_lt_of_cell? w _ HX.out.2.2.2.2.1)).trans HX.out.2.2.2.2.1; have x5 := (HI.out.hb.cell (World.block_lt_of_cell? w _ HX.out.2.2.2.2.2.1)).trans HX.out.2.2.2.2.2.1; have x6 := (HI.out.hb.cell (World.block_lt_of_cell? w _ HX.out.2.2.2.2.2.2.1)).trans HX.out.2.2.2.2.2.2.1; have x7 := (HI.out.hb.cell (World.block_lt_of_cell? w _ HX.out.2.2.2.2.2.2.2)).trans HX.out.2.2.2.2.2.2.2
                    have y6 := (blk_cell HBX.out 0).trans rfl
                    go_region_with (first | (go_at_call 124; refine (behind_calls i.f0 i.f1 i.f2 i.f3 i.f4 i.f5 i.f6 A7 c7 i.f7 bn nx _ (w.heap.size + 1) w.heap.size (fun k => k ≠ w.heap.size ∧ k ≠ w.heap.size + 1) (.int .i64 a0_0) (.slice A0_1 l0_1.length c0_1) vb (some ad) c0_2 l0_2.length bs kl (by exact HI.out.b1) (by exact HI.out.r) (HI.out.hl.trans HL.out) HL.out (by intro q hq; exact HI.out.ks q (by rw [HL.out]; exact hq)) (by exact HMK.out) (by have := HNL.out; omega) HKL.out).mono ?_; rintro e w2 ⟨b2, rfl, hge2, hk2, hb2⟩; have HI2 := Aside0.mk (LI.below (by exact HI.out.drewN 1) hb2); have HK2 := Aside0.mk hk2; have HBX2 := Aside0.mk (blk_below (by exact HBX.out) hb2); clear hk2 hb2 hge2; have x0 := (HI2.out.hb.cell (World.block_lt_of_cell? w _ HX.out.1)).trans HX.out.1; have x1 := (HI2.out.hb.cell (World.block_lt_of_cell? w _ HX.out.2.1)).trans HX.out.2.1; have x2 := (HI2.out.hb.cell (World.block_lt_of_cell? w _ HX.out.2.2.1)).trans HX.out.2.2.1; have x3 := (HI2.out.hb.cell (World.block_lt_of_cell? w _ HX.out.2.2.2.1)).trans HX.out.2.2.2.1; have x4 := (HI2.out.hb.cell (World.block_lt_of_cell? w _ HX.out.2.2.2.2.1)).trans HX.out.2.2.2.2.1; have x5 := (HI2.out.hb.cell (World.block_lt_of_cell? w _ HX.out.2.2.2.2.2.1)).trans HX.out.2.2.2.2.2.1; have x6 := (HI2.out.hb.cell (World.block_lt_of_cell? w _ HX.out.2.2.2.2.2.2.1)).trans HX.out.2.2.2.2.2.2.1; have x7 := (HI2.out.hb.cell (World.block_lt_of_cell? w _ HX.out.2.2.2.2.2.2.2)).trans HX.out.2.2.2.2.2.2.2; have y62 := (blk_cell HBX2.out 0).trans rfl) | (go_at_call 123; refine (ahead_calls k i.f0 i.f1 i.f2 i.f3 i.f4 i.f5 i.f6 A7 c7 i.f7 b2 (behindK i.f0 i.f5 kl nx) (readsL i) _ (Kd.C_below HI7.out (by exact HI2.out.hb)) hl7 (by exact HK2.out) HOI.out.1 HOI.out.2 (by have := HNL.out; omega)).mono ?_; rintro e w3 ⟨b3, rfl, hge3, hk3, hb3⟩; have HI3 := Aside0.mk (LI.below (by exact HI2.out) hb3); have HK3 := Aside0.mk hk3; have HBX3 := Aside0.mk (blk_below (by exact HBX2.out) hb3); have HGE := Aside0.mk (Nat.le_trans HI2.out.hb.size hge3); clear hk3 hb3 hge3))
                    all_goals go_wp2
                    all_goals go_roundw
                    all_goals first | (simp only [intOf]; omega) | ((repeat apply Exists.intro); exact ⟨⟨j, b3, by omega, HGE.out, rfl, rfl, ⟨by rw [HBK.out]; exact HK3.out⟩, HI3, HBX3⟩, rfl⟩) | exact ⟨j, b3, by omega, HGE.out, rfl, rfl, ⟨by rw [HBK.out]; exact HK3.out⟩, HI3, HBX3⟩
              · have hme : m = l0_2.length := by omega
                subst hme
                obtain ⟨p, hp⟩ : ∃ p, p = passK l0_2 kss l0_2.length := ⟨_, rfl⟩
                rw [← hp] at HI HL HS H2
                simp only [← hp]
                obtain ⟨k2, ag⟩ := p
                have HP2 := Aside0.mk hp
                clear hp
                go_wp2
                go_roundg gk
                case measure => exact Nat.lt_succ_self _
                case rel => exact ⟨ag, k2, vb, bs, rfl, HI, HL, HS, ⟨by have h := H2.out; cases ag <;> simpa using h⟩⟩
end Go.Proofs.Ythegbhfoleiegaa.All

namespace Go.Proofs.Ythegbhfoleiegaa.All
open Go.RowKit Go.Proofs.YthegbhfoleiegaaW.PrintWords Go.Proofs.YthegbhfoleiegaaW.PrintLast Go.Proofs.YthegbhfoleiegaaW.PrintMore
attribute [local go_sem] max2_int min2_int max_two min_two max_three min_three max_four min_four   -- for this text's walks alone
set_option linter.unusedVariables false
set_option linter.unusedSimpArgs false

def impl_LiveRegs.f (k : Nat) (a0_0 : Int) (l0_1 : List Int) (l0_2 : List (S85)) (a1 : Int) : Option (List Int) :=
 if a1 < 0 then some [] else if (l0_2.length : Int) ≤ a1 then some [] else if okV k l0_2 then (loopK l0_2 k (List.replicate l0_2.length [])).bind fun kss => some (sortI ((kss.getD a1.toNat []).filter fun x => decide (x < 1048576))) else none
set_option maxHeartbeats 8000000 in
set_option maxRecDepth 100000 in
theorem impl_LiveRegs.calls (k : Nat) (a0_0 : Int) (A0_1 : Option Addr) (c0_1 : Nat) (l0_1 : List Int) (A0_2 : Option Addr) (c0_2 : Nat) (l0_2 : List (S85)) (a1 : Int) (r : List Int) (w : World) (hr0_1 : Kd.C (Kd.int .i64) w A0_1 l0_1.length l0_1) (hc0_1 : l0_1.length ≤ c0_1) (hr0_2 : Kd.C k85 w A0_2 l0_2.length l0_2) (hc0_2 : l0_2.length ≤ c0_2) (h : impl_LiveRegs.f k a0_0 l0_1 l0_2 a1 = some r) :
 Calls Try.prog 19 #[.agg #[.int .i64 a0_0, .slice A0_1 l0_1.length c0_1, .slice A0_2 l0_2.length c0_2], .int .i64 a1] w fun e w' => ∃ v0_ : Value, e = .returned (v0_) ∧ Kd.R (Kd.int .i64) 2 w' w.heap.size (fun _ => True) v0_ r ∧ Below w.heap.size w w' := by
 have hu1 := Try.underlying29
 have hu2 := Try.underlying102
 have HR := Aside0.mk hr0_2
 clear hr0_1 hr0_2
 unfold impl_LiveRegs.f at h
 by_cases c0 : a1 < 0
 · rw [if_pos c0] at h
   obtain rfl := Option.some.inj h
   have c0b : decide (a1 < 0) = true := decide_eq_true c0
   clear h
   go_enter Try.func19, Try.ntmps19
   go_wp2
   go_ret
   exact ⟨_, rfl, Kd.R_nil _ _ _ _ _, below_alloc (Below.refl _ _) _⟩
 · rw [if_neg c0] at h
   have c0b : decide (a1 < 0) = false := decide_eq_false c0
   by_cases c1 : (l0_2.length : Int) ≤ a1
   · rw [if_pos c1] at h
     obtain rfl := Option.some.inj h
     have c1b : decide ((l0_2.length : Int) ≤ a1) = true := decide_eq_true c1
     have b2 := (blk_cell (blk_new w (.cells #[.int .i64 a0_0, .slice A0_1 l0_1.length c0_1, .slice A0_2 l0_2.length c0_2] 29 (0, 0))) 2).trans rfl
     clear h
     go_enter Try.func19, Try.ntmps19
     go_wp2
     go_ret
     exact ⟨_, rfl, Kd.R_nil _ _ _ _ _, below_alloc (Below.refl _ _) _⟩
   · rw [if_neg c1] at h
     have c1b : decide ((l0_2.length : Int) ≤ a1) = false := decide_eq_false c1
     split at h
     case isFalse => cases h
     rename_i hok
     obtain ⟨kss, hq, h⟩ := Option.bind_eq_some_iff.1 h
     obtain ⟨km, hkm⟩ : ∃ km, km = kss.getD a1.toNat [] := ⟨_, rfl⟩
     rw [← hkm] at h
     have HF := Aside0.mk (Option.some.inj h)
     have HOK := Aside0.mk hok
     have HQ := Aside0.mk hq
     have HKM := Aside0.mk hkm
     have hal := hok.2.2
     have hb0 := blk_new w (.cells #[.int .i64 a0_0, .slice A0_1 l0_1.length c0_1, .slice A0_2 l0_2.length c0_2] 29 (0, 0))
     have b0 := (blk_cell hb0 0).trans rfl
     have b1 := (blk_cell hb0 1).trans rfl
     have b2 := (blk_cell hb0 2).trans rfl
     have p3 : 0 ≤ a1 := by omega
     have q3 : a1 < (l0_2.length : Int) := by omega
     have HB0 := Aside0.mk (below_alloc (Below.refl w.heap.size w) (.cells #[.int .i64 a0_0, .slice A0_1 l0_1.length c0_1, .slice A0_2 l0_2.length c0_2] 29 (0, 0)))
     have e1 : (w.alloc (.cells #[.int .i64 a0_0, .slice A0_1 l0_1.length c0_1, .slice A0_2 l0_2.length c0_2] 29 (0, 0))).heap.size = w.heap.size + 1 := by simp
     have E1 := Aside0.mk e1
     clear h hok hq hkm hb0 e1
     go_enter Try.func19, Try.ntmps19
     go_wp2_with (first | (go_at_call 70; refine (liveOf_calls k a0_0 A0_1 c0_1 l0_1 A0_2 c0_2 l0_2 kss _ (Kd.C_below HR.out (by exact HB0.out)) hc0_2 HOK.out HQ.out).mono ?_; rintro e w2 ⟨vb, bs, rfl, hli, hkl, hsk⟩; have hbsl : bs.length = l0_2.length := hli.hl.trans hkl; obtain ⟨g8, cap8, e8, _, _, _⟩ := Kd.R_form hli.r (by omega); subst e8; rw [hbsl] at hli; obtain ⟨c8, z8⟩ := Kd.R_celln 0 hli.r a1 p3 q3; have d3 := (blk_cell hli.b1 3).trans rfl; rw [E1.out] at d3; have HI := Aside0.mk hli; have HKL := Aside0.mk hkl; have HSK := Aside0.mk hsk; clear hli hkl hsk hbsl z8) | (at_range; refine wpList_range_keys rfl _ 92 rfl 2 4 (Maps.int_keyed Try.underlying2) Try.underlying92 (rdOf 0 bs a1) km rfl (by have h := HI.out.ks a1.toNat (by rw [HKL.out]; omega); rw [← HKM.out] at h; have e : rdOf 0 bs a1 = bs.getD a1.toNat 0 := (by simp [rdOf, List.getD_eq_getElem?_getD]); rw [e]; exact h) ?_; intro w0 hrg0 hg0 hs0))
     have hkn : km.length ≤ (allR l0_2).length := nodup_sub_len _ _ hrg0.keys.nodup (fun x hx => HSK.out a1.toNat x (by rw [← HKM.out]; exact hx))
     obtain ⟨bm, hbm⟩ : ∃ bm, bm = rdOf 0 bs a1 := ⟨_, rfl⟩
     rw [← hbm] at hrg0 c8 ⊢
     have hblo : w.heap.size ≤ rdOf 0 bs a1 := by (have h := HI.out.lo a1.toNat (by rw [HKL.out]; omega)); (have e : rdOf 0 bs a1 = bs.getD a1.toNat 0 := (by simp [rdOf, List.getD_eq_getElem?_getD])); rw [e]; exact Nat.le_trans (by rw [E1.out]; omega) h
     rw [← hbm] at hblo
     have HB := Aside0.mk (belowG (below_step HB0.out HI.out.hb) hg0 (fun _ e => by cases e))
     have hws := (below_step HB0.out HI.out.hb).size
     have HG := Aside0.mk hrg0
     have hkeys := hrg0.keys.nodup
     have HBM := Aside0.mk hrg0.ltb
     clear hrg0 hg0 hbm c8 d3 b0 b1 b2 HI
     go_frame
     obtain ⟨it, hit⟩ : ∃ it, it = w2.heap.size := ⟨_, rfl⟩
     rw [← hit] at HG hs0 hws ⊢
     clear hit
     go_loopw [6] (fun _ wr => ∃ (ks lf : List Int), Aside0 (KRange Try.prog 2 4 wr bm it ks lf) ∧ Aside0 (∀ x ∈ lf, x ∈ ks) ∧ Aside0 (∀ x, x ∈ ks ↔ x ∈ km ∧ (x ∈ lf ∨ x < 1048576)) ∧ Aside0 (Below w.heap.size w wr)) (fun _ wr => wr.rangeLeft bm it)
     case atStart => exact ⟨km, km, HG, ⟨fun x h => h⟩, ⟨fun x => ⟨fun h => ⟨h, .inl h⟩, fun h => h.1⟩⟩, HB⟩
     case round =>
      clear HG HB HBM
      obtain ⟨ks, lf, HG, HS, HE, HB⟩ := hrel
      go_wp2_with (first | (at_next; refine wpList_next_keys rfl _ rfl 2 4 (Maps.int_keyed Try.underlying2) Try.underlying2 Try.underlying4 bm it ks lf rfl HG.out HS.out ?_ ?_))
      · intro hlf
        subst hlf
        have hkn2 : ks.length ≤ km.length := nodup_sub_len _ _ HG.out.keys.nodup (fun x hx => ((HE.out x).1 hx).1)
        go_wp2_with (first | (go_at_call 71; refine (xsorted_calls bm ks _ HG.out.keys (by omega)).mono ?_; rintro e w3 ⟨v3, rfl, hr3, hb3⟩; have HR3 := Aside0.mk hr3; have HB3 := Aside0.mk (below_step HB.out hb3); clear hr3 hb3))
        go_ret
        have hs : sortI ks = r := by
         rw [← HF.out]
         exact sortI_perm_eq ((List.perm_ext_iff_of_nodup HG.out.keys.nodup (hkeys.filter _)).2 (fun x => by rw [HE.out, List.mem_filter]; simp))
        rw [← hs]
        exact ⟨_, rfl, Kd.R_lower HR3.out HB.out.size, HB3.out⟩
      · intro x w1 hwx hx hg1 hlt hgr hsz hen
        have hrl := HG.out.lt
        have hrb := HG.out.ltb
        have HB1 := Aside0.mk (belowG HB.out hgr (fun k e => by cases e; omega))
        have HG1 := Aside0.mk hg1
        clear hg1 hgr HB
        by_cases hxd : x ≥ 1048576
        · have hxb : decide (x ≥ 1048576) = true := decide_eq_true hxd
          have hxb2 : decide (1048576 ≤ x) = true := decide_eq_true hxd
          go_wp2_with (first | (refine wpList_del_krange rfl _ _ 92 2 rfl 4 (Maps.int_keyed Try.underlying2) Try.underlying2 Try.underlying92 bm it ks _ rfl HG1.out x rfl hwx ?_; intro w2 hg2 hle2 hgr2))
          have HG2 := Aside0.mk hg2
          have HB2 := Aside0.mk (belowG HB1.out hgr2 (fun k e => by cases e; exact hblo))
          go_roundw
          case measure => exact Nat.lt_of_le_of_lt hle2 hlt
          case rel => exact ⟨_, _, HG2, ⟨fun y hy => by rw [List.mem_filter] at hy ⊢; exact ⟨HS.out y (List.mem_filter.1 hy.1).1, hy.2⟩⟩, ⟨fun y => by rw [List.mem_filter, HE.out, List.mem_filter, List.mem_filter]; by_cases hy : y = x <;> simp [hy]; omega⟩, HB2⟩
        · have hxb : decide (x ≥ 1048576) = false := decide_eq_false hxd
          have hxb2 : decide (1048576 ≤ x) = false := decide_eq_false hxd
          go_wp2
          go_roundw
          case measure => exact hlt
          case rel => exact ⟨ks, _, HG1, ⟨fun y hy => HS.out y (List.mem_filter.1 hy).1⟩, ⟨fun y => by rw [HE.out, List.mem_filter]; by_cases hy : y = x <;> simp [hy]; omega⟩, HB1⟩

end Go.Proofs.Ythegbhfoleiegaa.All

