/- Part 2 of the proof of FnExactIntervals: functions of the translation with what they return, and plain laws of these. Written by programs of this session over the kit's print, and by hand. -/
import Derived.Test.YthegbhfoleiegaaProg
import Derived.Test.YthegbhfoleiegaaCFnExactIntervalsWApart
import Derived.Test.YthegbhfoleiegaaCFnExactIntervalsWArr
import Derived.Test.YthegbhfoleiegaaCFnExactIntervalsWAt
import Derived.Test.YthegbhfoleiegaaCFnExactIntervalsWFoot
import Derived.Test.YthegbhfoleiegaaCFnExactIntervalsWFootNe
import Derived.Test.YthegbhfoleiegaaCFnExactIntervalsWGuard
import Derived.Test.YthegbhfoleiegaaCFnExactIntervalsWInv
import Derived.Test.YthegbhfoleiegaaCFnExactIntervalsWKept
import Derived.Test.YthegbhfoleiegaaCFnExactIntervalsWLast
import Derived.Test.YthegbhfoleiegaaCFnExactIntervalsWMore
import Derived.Test.YthegbhfoleiegaaCFnExactIntervalsWN
import Derived.Test.YthegbhfoleiegaaCFnExactIntervalsWNEv
import Derived.Test.YthegbhfoleiegaaCFnExactIntervalsWQPut
import Derived.Test.YthegbhfoleiegaaCFnExactIntervalsWRepsOne
import Derived.Test.YthegbhfoleiegaaCFnExactIntervalsWShare
import Derived.Test.YthegbhfoleiegaaCFnExactIntervalsWTab
import Derived.Test.YthegbhfoleiegaaCFnExactIntervalsWWords
import Derived.Test.YthegbhfoleiegaaCFnExactIntervalsWZeros
import Derived.Below
import Derived.Deep.Draws
import Derived.Deep.AppendLies
import Derived.Maps.AppendAt
import Derived.OwnWalk
import Derived.Laws.BytesArg
import Derived.Laws.MakeOwn
import Derived.Laws.OwnMore
import Derived.Deep.OwnRows
import Derived.Tactics
import Derived.Lib.ConvBytes
import Derived.Laws.Slices
import Derived.WalkKit
import Derived.KernelRfl
import Derived.RowKit3
import Derived.Deep.LoopGhost
import Derived.Deep.QuietTactic
import Derived.BigQuiet
import Derived.WideLaws
import Derived.Deep.DeepCutAuto
import Derived.Deep.CutBlock
import Derived.Deep.RegionHeld3
import Derived.Laws.Rows
import Derived.Lib.AppendStr
import Derived.ArgAppend
import Derived.Laws.IdiomCopy
import Derived.OrdersHeld
import Derived.Laws.BitsLemmas
import Derived.RowKit
import Derived.Laws.CopyOwn
import Derived.Maps.OwnSet
import Derived.Maps.OwnOps
import Derived.Maps.RangeWalk
import Derived.BigRegion
import Derived.Handy
import Derived.Shelf.GgSortFunc.Whole
import Derived.Shelf.GgSortFunc.Tiny
import Derived.Sort.OwnSortedInts
import Derived.Lib.RowBridge
import Derived.Lib.SortBridge
import Derived.Sort.LotA
import Derived.Deep.Slices
import Derived.ChangeArms
import Derived.ProofKit
import Derived.OpenShut
import Derived.ShutString
import Derived.ChangeOld
import Derived.SizedLaws
import Derived.Test.YthegbhfoleiegaaCFnExactIntervals1
namespace Go.Proofs.Ythegbhfoleiegaa.All
open Go.RowKit Go.Proofs.YthegbhfoleiegaaW.PrintWords Go.Proofs.YthegbhfoleiegaaW.PrintLast Go.Proofs.YthegbhfoleiegaaW.PrintMore
attribute [local go_sem] max2_int min2_int max_two min_two max_three min_three max_four min_four   -- for this text's walks alone
set_option linter.unusedVariables false
set_option linter.unusedSimpArgs false

mutual
def spec_Reads.j0 : Nat → List Int → Int → Int → Int → Int → Int → Int → ByteArray → List Int → Option (List Int)
 | 0, _, _, _, _, _, _, _, _, _ => none
 | k + 1, x3, x141000, x141001, x141002, x141003, x141004, x141005, x141006, x141007 => if x141003 ≥ 0 then (if x3.length < 17592186044416 then (spec_Reads.j1 k (x3 ++ [x141003]) x141000 x141001 x141002 x141003 x141004 x141005 x141006 x141007) else (none)) else (spec_Reads.j1 k x3 x141000 x141001 x141002 x141003 x141004 x141005 x141006 x141007)
def spec_Reads.j1 : Nat → List Int → Int → Int → Int → Int → Int → Int → ByteArray → List Int → Option (List Int)
 | 0, _, _, _, _, _, _, _, _, _ => none
 | k + 1, x3, x141000, x141001, x141002, x141003, x141004, x141005, x141006, x141007 => if x141004 ≥ 0 then (if x141000 = 20 then (spec_Reads.j2 k x3 false x141000 x141001 x141002 x141003 x141004 x141005 x141006 x141007) else (if x141000 = 21 then (spec_Reads.j2 k x3 false x141000 x141001 x141002 x141003 x141004 x141005 x141006 x141007) else (spec_Reads.j2 k x3 (x141000 != 46) x141000 x141001 x141002 x141003 x141004 x141005 x141006 x141007))) else (spec_Reads.j2 k x3 false x141000 x141001 x141002 x141003 x141004 x141005 x141006 x141007)
def spec_Reads.j2 : Nat → List Int → Bool → Int → Int → Int → Int → Int → Int → ByteArray → List Int → Option (List Int)
 | 0, _, _, _, _, _, _, _, _, _, _ => none
 | k + 1, x3, x39, x141000, x141001, x141002, x141003, x141004, x141005, x141006, x141007 => if x39 = true then (if x3.length < 17592186044416 then (spec_Reads.j3 k (x3 ++ [x141004]) x141000 x141001 x141002 x141003 x141004 x141005 x141006 x141007) else (none)) else (spec_Reads.j3 k x3 x141000 x141001 x141002 x141003 x141004 x141005 x141006 x141007)
def spec_Reads.j3 : Nat → List Int → Int → Int → Int → Int → Int → Int → ByteArray → List Int → Option (List Int)
 | 0, _, _, _, _, _, _, _, _, _ => none
 | k + 1, x3, x141000, x141001, x141002, x141003, x141004, x141005, x141006, x141007 => spec_Reads.l0 k x3 0 x141000 x141001 x141002 x141003 x141004 x141005 x141006 x141007
def spec_Reads.l0 : Nat → List Int → Int → Int → Int → Int → Int → Int → Int → ByteArray → List Int → Option (List Int)
 | 0, _, _, _, _, _, _, _, _, _, _ => none
 | k + 1, x3, x4, x141000, x141001, x141002, x141003, x141004, x141005, x141006, x141007 => if x4 < (x141007.length : Int) then (if 0 ≤ x4 then (if (rd x141007 x4) ≥ 0 then (if x3.length < 17592186044416 then (spec_Reads.l0 k (x3 ++ [rd x141007 x4]) (wrap64 (x4 + 1)) x141000 x141001 x141002 x141003 x141004 x141005 x141006 x141007) else (none)) else (spec_Reads.l0 k x3 (wrap64 (x4 + 1)) x141000 x141001 x141002 x141003 x141004 x141005 x141006 x141007)) else (none)) else (some x3)
end
def spec_Reads.f (k : Nat) (a0_0 : Int) (a0_1 : Int) (a0_2 : Int) (a0_3 : Int) (a0_4 : Int) (a0_5 : Int) (a0_6 : ByteArray) (l0_7 : List Int) : Option (List Int) := (some (([] : List Int) : List Int)).bind fun y141 => (if a0_2 ≥ 0 then (if y141.length < 17592186044416 then (spec_Reads.j0 k (y141 ++ [a0_2]) a0_0 a0_1 a0_2 a0_3 a0_4 a0_5 a0_6 l0_7) else (none)) else (spec_Reads.j0 k y141 a0_0 a0_1 a0_2 a0_3 a0_4 a0_5 a0_6 l0_7))
set_option maxHeartbeats 8000000 in
set_option maxRecDepth 100000 in
theorem spec_Reads.calls (k : Nat) (a0_0 : Int) (a0_1 : Int) (a0_2 : Int) (a0_3 : Int) (a0_4 : Int) (a0_5 : Int) (a0_6 : ByteArray) (A0_7 : Option Addr) (c0_7 : Nat) (l0_7 : List Int) (r : List Int) (w : World) (hr0_7 : Kd.C (Kd.int .i64) w A0_7 l0_7.length l0_7) (hc0_7 : l0_7.length ≤ c0_7) (h : spec_Reads.f k a0_0 a0_1 a0_2 a0_3 a0_4 a0_5 a0_6 l0_7 = some r) :
 Calls Try.prog 116 #[.agg #[.int .i64 a0_0, .int .i64 a0_1, .int .i64 a0_2, .int .i64 a0_3, .int .i64 a0_4, .int .i64 a0_5, .string a0_6, .slice A0_7 l0_7.length c0_7]] w fun e w' => ∃ v0_ : Value, e = .returned (v0_) ∧ Kd.R (Kd.int .i64) 2 w' w.heap.size (fun _ => True) v0_ r ∧ Below w.heap.size w w' := by
 have hu87 := Try.underlying87
 have HR0_7 := Aside0.mk hr0_7
 have HC0_7 := Aside0.mk hc0_7
 clear hr0_7 hc0_7
 have HB := Aside0.mk (Below.refl w.heap.size w)
 have H : ((some (([] : List Int) : List Int)).bind fun y141 => (if a0_2 ≥ 0 then (if y141.length < 17592186044416 then (spec_Reads.j0 k (y141 ++ [a0_2]) a0_0 a0_1 a0_2 a0_3 a0_4 a0_5 a0_6 l0_7) else (none)) else (spec_Reads.j0 k y141 a0_0 a0_1 a0_2 a0_3 a0_4 a0_5 a0_6 l0_7))) = some r := h
 clear h
 obtain ⟨y141, hy141⟩ : ∃ y_ : List Int, y_ = (([] : List Int)) := ⟨_, rfl⟩
 replace H : (if a0_2 ≥ 0 then (if y141.length < 17592186044416 then (spec_Reads.j0 k (y141 ++ [a0_2]) a0_0 a0_1 a0_2 a0_3 a0_4 a0_5 a0_6 l0_7) else (none)) else (spec_Reads.j0 k y141 a0_0 a0_1 a0_2 a0_3 a0_4 a0_5 a0_6 l0_7)) = some r := by first | (rw [hy141]; with_reducible exact H) | (have H2_ := (Option.bind_some _ _).symm.trans H; rw [hy141]; with_reducible exact H2_) | (have H2_ := (Option.bind_some _ _).symm.trans H; with_reducible exact H2_) | with_reducible exact H | (rw [hy141]; exact H) | exact H
 have Ny141 := Aside0.mk hy141
 clear hy141
 have HC2 := Aside0.mk H
 clear H
 go_enter Try.func116, Try.ntmps116
 go_upto_if 8 with (first | ((with_reducible refine gate_dst (N := 1) rfl ?_); refine box_event ?hg (N := 1) ?hd (cs := #[.int .i64 a0_0, .int .i64 a0_1, .int .i64 a0_2, .int .i64 a0_3, .int .i64 a0_4, .int .i64 a0_5, .string a0_6, .slice A0_7 l0_7.length c0_7]) (t := 87) ?hr ?_; (case hd => rfl); (case hg => rfl); (case hr => first | (go_simp; done) | (go_simp; rfl)); intro gb140 hg w3 hbox hb; have n0_ := Aside0.mk (below_step bz hb); have n1_ := Aside0.mk (hbox); have n2_ := Aside0.mk ((by rw [hg]; exact (below_size bz) : w.heap.size ≤ gb140)); have n3_ := Aside0.mk ((by rw [hg]; exact (below_size bz) : w.heap.size ≤ gb140)); clear HB; have HB := n0_; have BK140 := n1_; have GW140 := n2_; have GE140 := n3_; clear n0_ n1_ n2_ n3_; clear hb hbox hg) | ((with_reducible refine gate_dst (N := 5) rfl ?_); refine Kd.R_lit (Kd.int .i64) _ 2 ?hg (N := 5) ?hd (xs := ([] : List Int)) (inner := []) (ok := fun _ => True) (okp := fun _ => True) ?hr ?hp (fun _ hk => hk) trivial (Below.refl _ _) (Nat.le_refl _) (by simp) ?_; (case hd => rfl); (case hg => rfl); (case hr => first | (go_simp; done) | (go_simp; rfl)); (case hp => exact (Reps.none _ _)); intro v142 w4 ho5 hb hg_ hnew_; clear hg_ hnew_; (first | rw [← Ny141.out] at ho5 | (simp only [Int.reduceToNat] at ho5; rw [← Ny141.out] at ho5)); have n0_ := Aside0.mk (Kd.R_lower ho5 (below_size bz)); have n1_ := Aside0.mk (blk_below (g := gb140) (o := .cells #[.int .i64 a0_0, .int .i64 a0_1, .int .i64 a0_2, .int .i64 a0_3, .int .i64 a0_4, .int .i64 a0_5, .string a0_6, .slice A0_7 l0_7.length c0_7] 87 (0, 0)) kz hb); have n2_ := Aside0.mk (below_step bz hb); clear BK140; clear HB; have HO143 := n0_; have BK140 := n1_; have HB := n2_; clear n0_ n1_ n2_; clear hb ho5; have hcz6_0 : w4.cell? ⟨gb140, 0, none⟩ = some (.int .i64 a0_0) := (blk_cell BK140.out 0).trans rfl; have hcz6_1 : w4.cell? ⟨gb140, 1, none⟩ = some (.int .i64 a0_1) := (blk_cell BK140.out 1).trans rfl; have hcz6_2 : w4.cell? ⟨gb140, 2, none⟩ = some (.int .i64 a0_2) := (blk_cell BK140.out 2).trans rfl; have hcz6_3 : w4.cell? ⟨gb140, 3, none⟩ = some (.int .i64 a0_3) := (blk_cell BK140.out 3).trans rfl; have hcz6_4 : w4.cell? ⟨gb140, 4, none⟩ = some (.int .i64 a0_4) := (blk_cell BK140.out 4).trans rfl; have hcz6_5 : w4.cell? ⟨gb140, 5, none⟩ = some (.int .i64 a0_5) := (blk_cell BK140.out 5).trans rfl; have hcz6_6 : w4.cell? ⟨gb140, 6, none⟩ = some (.string a0_6) := (blk_cell BK140.out 6).trans rfl; have hcz6_7 : w4.cell? ⟨gb140, 7, none⟩ = some (.slice A0_7 l0_7.length c0_7) := (blk_cell BK140.out 7).trans rfl; have hfz6_0 := blk_frozen BK140.out 0; have hfz6_1 := blk_frozen BK140.out 1; have hfz6_2 := blk_frozen BK140.out 2; have hfz6_3 := blk_frozen BK140.out 3; have hfz6_4 := blk_frozen BK140.out 4; have hfz6_5 := blk_frozen BK140.out 5; have hfz6_6 := blk_frozen BK140.out 6; have hfz6_7 := blk_frozen BK140.out 7))
 (try simp only [Act.put, sx1, sx2, sx3])
 go_cut [3] (fun v3 wc => ∃ (kq : Nat) (x3_1 : List Int), Aside0 (spec_Reads.j0 kq x3_1 a0_0 a0_1 a0_2 a0_3 a0_4 a0_5 a0_6 l0_7 = some r) ∧ Aside0 (kq ≤ k) ∧ Aside0 (Kd.R (Kd.int .i64) 2 wc w.heap.size (fun _ => True) v3 x3_1) ∧ Aside0 (wc.heap[gb140]? = some (.cells #[.int .i64 a0_0, .int .i64 a0_1, .int .i64 a0_2, .int .i64 a0_3, .int .i64 a0_4, .int .i64 a0_5, .string a0_6, (.slice A0_7 l0_7.length c0_7)] 87 (0, 0))) ∧ Aside0 (Below w.heap.size w wc))
 case first =>
  have H := HC2.out
  clear HC2
  by_cases c7 : a0_2 ≥ 0
  · rw [if_pos c7] at H
    have c7b0 : decide (0 ≤ a0_2) = true := decide_eq_true c7
    clear c7
    (first | rw [c7b0] | (simp only [i64_w, i32_w]; rw [c7b0]) | skip)
    by_cases c8 : y141.length < 17592186044416
    · rw [if_pos c8] at H
      have LMc8 := Aside0.mk c8
      clear c8
      obtain ⟨y144, hy144⟩ : ∃ y_ : List Int, y_ = (y141 ++ [a0_2]) := ⟨_, rfl⟩
      replace H : (spec_Reads.j0 k y144 a0_0 a0_1 a0_2 a0_3 a0_4 a0_5 a0_6 l0_7) = some r := by first | (rw [hy144]; with_reducible exact H) | (have H2_ := (Option.bind_some _ _).symm.trans H; rw [hy144]; with_reducible exact H2_) | (have H2_ := (Option.bind_some _ _).symm.trans H; with_reducible exact H2_) | with_reducible exact H | (rw [hy144]; exact H) | exact H
      have Ny144 := Aside0.mk hy144
      clear hy144
      have H' := Aside0.mk H
      clear H
      have hcz9_0 : w4.cell? ⟨gb140, 0, none⟩ = some (.int .i64 a0_0) := (blk_cell BK140.out 0).trans rfl
      have hcz9_1 : w4.cell? ⟨gb140, 1, none⟩ = some (.int .i64 a0_1) := (blk_cell BK140.out 1).trans rfl
      have hcz9_2 : w4.cell? ⟨gb140, 2, none⟩ = some (.int .i64 a0_2) := (blk_cell BK140.out 2).trans rfl
      have hcz9_3 : w4.cell? ⟨gb140, 3, none⟩ = some (.int .i64 a0_3) := (blk_cell BK140.out 3).trans rfl
      have hcz9_4 : w4.cell? ⟨gb140, 4, none⟩ = some (.int .i64 a0_4) := (blk_cell BK140.out 4).trans rfl
      have hcz9_5 : w4.cell? ⟨gb140, 5, none⟩ = some (.int .i64 a0_5) := (blk_cell BK140.out 5).trans rfl
      have hcz9_6 : w4.cell? ⟨gb140, 6, none⟩ = some (.string a0_6) := (blk_cell BK140.out 6).trans rfl
      have hcz9_7 : w4.cell? ⟨gb140, 7, none⟩ = some (.slice A0_7 l0_7.length c0_7) := (blk_cell BK140.out 7).trans rfl
      go_wp2_with (first | ((with_reducible refine gate_builtin (b := .append) (xs := #[.tmp 9, .tmp 12]) rfl ?_); at_builtin; refine Kd.R_append (Kd.int .i64) (w0 := w) w.heap.size rfl (.tmp 9) (.tmp 12) 22 2 (.int .i64 0) 8 rfl Try.underlying22 info2 rfl (by decide) (by omega) v142 y141 a0_2 [.int .i64 a0_2] (fun _ => True) (fun _ => False) rfl rfl ?aP (fun _ hk => hk.elim) ?aF ?aO ?aB ?aS ?aL ?_; (case aP => exact rfl); (case aB => exact bz); (case aF => exact (fun _ _ => trivial)); (case aO => exact (rz HO143.out)); (case aS => exact (below_size bz)); (case aL => have := LMc8.out; omega); intro v145 w10 ho hb hg hat; rw [← Ny144.out] at ho; have n0_ := Aside0.mk (blk_grown (g := gb140) (o := .cells #[.int .i64 a0_0, .int .i64 a0_1, .int .i64 a0_2, .int .i64 a0_3, .int .i64 a0_4, .int .i64 a0_5, .string a0_6, .slice A0_7 l0_7.length c0_7] 87 (0, 0)) kz hg (Kd.R_ne HO143.out BK140.out (by decide))); have n1_ := Aside0.mk (hb); have n2_ := Aside0.mk (ho); clear BK140; clear HB; clear HO143; have BK140 := n0_; have HB := n1_; have HO146 := n2_; clear n0_ n1_ n2_; clear ho hb hg hat))
      go_meet
      case rel => exact ⟨_, (y144), H', ⟨by first | omega | exact Nat.le_refl _⟩, ⟨by (with_reducible repeat (first | apply Kd.R_alloc | apply Kd.R_drewN | apply Kd.R_drew)); exact HO146.out⟩, ⟨ kz⟩, ⟨ bz⟩⟩
    · rw [if_neg c8] at H
      exact absurd H (by simp)
  · rw [if_neg c7] at H
    have c7b0 : decide (0 ≤ a0_2) = false := decide_eq_false c7
    clear c7
    (first | rw [c7b0] | (simp only [i64_w, i32_w]; rw [c7b0]) | skip)
    have H' := Aside0.mk H
    clear H
    go_wp2
    go_meet
    case rel => exact ⟨_, (y141), H', ⟨by first | omega | exact Nat.le_refl _⟩, ⟨by (with_reducible repeat (first | apply Kd.R_alloc | apply Kd.R_drewN | apply Kd.R_drew)); exact HO143.out⟩, ⟨ kz⟩, ⟨ bz⟩⟩
 case rest =>
  clear HC2
  obtain ⟨kq, x3_1, HA, HJ1, HO_3, BK140, HB⟩ := hcut
  cases kq with
  | zero => exact absurd HA.out (by simp [spec_Reads.j0])
  | succ kj1 =>
   have H := HA.out
   clear HA
   simp only [spec_Reads.j0] at H
   have HC11 := Aside0.mk H
   clear H
   have hcz12_0 : wc.cell? ⟨gb140, 0, none⟩ = some (.int .i64 a0_0) := (blk_cell BK140.out 0).trans rfl
   have hcz12_1 : wc.cell? ⟨gb140, 1, none⟩ = some (.int .i64 a0_1) := (blk_cell BK140.out 1).trans rfl
   have hcz12_2 : wc.cell? ⟨gb140, 2, none⟩ = some (.int .i64 a0_2) := (blk_cell BK140.out 2).trans rfl
   have hcz12_3 : wc.cell? ⟨gb140, 3, none⟩ = some (.int .i64 a0_3) := (blk_cell BK140.out 3).trans rfl
   have hcz12_4 : wc.cell? ⟨gb140, 4, none⟩ = some (.int .i64 a0_4) := (blk_cell BK140.out 4).trans rfl
   have hcz12_5 : wc.cell? ⟨gb140, 5, none⟩ = some (.int .i64 a0_5) := (blk_cell BK140.out 5).trans rfl
   have hcz12_6 : wc.cell? ⟨gb140, 6, none⟩ = some (.string a0_6) := (blk_cell BK140.out 6).trans rfl
   have hcz12_7 : wc.cell? ⟨gb140, 7, none⟩ = some (.slice A0_7 l0_7.length c0_7) := (blk_cell BK140.out 7).trans rfl
   go_upto_if 16 with (fail)
   go_cut [3] (fun v3 wc => ∃ (kq : Nat) (x3_10 : List Int), Aside0 (spec_Reads.j1 kq x3_10 a0_0 a0_1 a0_2 a0_3 a0_4 a0_5 a0_6 l0_7 = some r) ∧ Aside0 (kq ≤ kj1) ∧ Aside0 (Kd.R (Kd.int .i64) 2 wc w.heap.size (fun _ => True) v3 x3_10) ∧ Aside0 (wc.heap[gb140]? = some (.cells #[.int .i64 a0_0, .int .i64 a0_1, .int .i64 a0_2, .int .i64 a0_3, .int .i64 a0_4, .int .i64 a0_5, .string a0_6, (.slice A0_7 l0_7.length c0_7)] 87 (0, 0))) ∧ Aside0 (Below w.heap.size w wc))
   case first =>
    have H := HC11.out
    clear HC11
    by_cases c13 : a0_3 ≥ 0
    · rw [if_pos c13] at H
      have c13b0 : decide (0 ≤ a0_3) = true := decide_eq_true c13
      clear c13
      (first | rw [c13b0] | (simp only [i64_w, i32_w]; rw [c13b0]) | skip)
      by_cases c14 : x3_1.length < 17592186044416
      · rw [if_pos c14] at H
        have LMc14 := Aside0.mk c14
        clear c14
        obtain ⟨y147, hy147⟩ : ∃ y_ : List Int, y_ = (x3_1 ++ [a0_3]) := ⟨_, rfl⟩
        replace H : (spec_Reads.j1 kj1 y147 a0_0 a0_1 a0_2 a0_3 a0_4 a0_5 a0_6 l0_7) = some r := by first | (rw [hy147]; with_reducible exact H) | (have H2_ := (Option.bind_some _ _).symm.trans H; rw [hy147]; with_reducible exact H2_) | (have H2_ := (Option.bind_some _ _).symm.trans H; with_reducible exact H2_) | with_reducible exact H | (rw [hy147]; exact H) | exact H
        have Ny147 := Aside0.mk hy147
        clear hy147
        have H' := Aside0.mk H
        clear H
        have hcz15_0 : wc.cell? ⟨gb140, 0, none⟩ = some (.int .i64 a0_0) := (blk_cell BK140.out 0).trans rfl
        have hcz15_1 : wc.cell? ⟨gb140, 1, none⟩ = some (.int .i64 a0_1) := (blk_cell BK140.out 1).trans rfl
        have hcz15_2 : wc.cell? ⟨gb140, 2, none⟩ = some (.int .i64 a0_2) := (blk_cell BK140.out 2).trans rfl
        have hcz15_3 : wc.cell? ⟨gb140, 3, none⟩ = some (.int .i64 a0_3) := (blk_cell BK140.out 3).trans rfl
        have hcz15_4 : wc.cell? ⟨gb140, 4, none⟩ = some (.int .i64 a0_4) := (blk_cell BK140.out 4).trans rfl
        have hcz15_5 : wc.cell? ⟨gb140, 5, none⟩ = some (.int .i64 a0_5) := (blk_cell BK140.out 5).trans rfl
        have hcz15_6 : wc.cell? ⟨gb140, 6, none⟩ = some (.string a0_6) := (blk_cell BK140.out 6).trans rfl
        have hcz15_7 : wc.cell? ⟨gb140, 7, none⟩ = some (.slice A0_7 l0_7.length c0_7) := (blk_cell BK140.out 7).trans rfl
        go_wp2_with (first | ((with_reducible refine gate_builtin (b := .append) (xs := #[.tmp 17, .tmp 20]) rfl ?_); at_builtin; refine Kd.R_append (Kd.int .i64) (w0 := w) w.heap.size rfl (.tmp 17) (.tmp 20) 22 2 (.int .i64 0) 8 rfl Try.underlying22 info2 rfl (by decide) (by omega) u3 x3_1 a0_3 [.int .i64 a0_3] (fun _ => True) (fun _ => False) rfl rfl ?aP (fun _ hk => hk.elim) ?aF ?aO ?aB ?aS ?aL ?_; (case aP => exact rfl); (case aB => exact bz); (case aF => exact (fun _ _ => trivial)); (case aO => exact (rz HO_3.out)); (case aS => exact (below_size bz)); (case aL => have := LMc14.out; omega); intro v148 w16 ho hb hg hat; rw [← Ny147.out] at ho; have n0_ := Aside0.mk (blk_grown (g := gb140) (o := .cells #[.int .i64 a0_0, .int .i64 a0_1, .int .i64 a0_2, .int .i64 a0_3, .int .i64 a0_4, .int .i64 a0_5, .string a0_6, .slice A0_7 l0_7.length c0_7] 87 (0, 0)) kz hg (Kd.R_ne HO_3.out BK140.out (by decide))); have n1_ := Aside0.mk (hb); have n2_ := Aside0.mk (ho); clear BK140; clear HB; clear HO_3; have BK140 := n0_; have HB := n1_; have HO149 := n2_; clear n0_ n1_ n2_; clear ho hb hg hat))
        go_meet
        case rel => exact ⟨_, (y147), H', ⟨by have := HJ1.out; first | omega | exact Nat.le_refl _⟩, ⟨by (with_reducible repeat (first | apply Kd.R_alloc | apply Kd.R_drewN | apply Kd.R_drew)); exact HO149.out⟩, ⟨ kz⟩, ⟨ bz⟩⟩
      · rw [if_neg c14] at H
        exact absurd H (by simp)
    · rw [if_neg c13] at H
      have c13b0 : decide (0 ≤ a0_3) = false := decide_eq_false c13
      clear c13
      (first | rw [c13b0] | (simp only [i64_w, i32_w]; rw [c13b0]) | skip)
      have H' := Aside0.mk H
      clear H
      go_wp2
      go_meet
      case rel => exact ⟨_, (x3_1), H', ⟨by have := HJ1.out; first | omega | exact Nat.le_refl _⟩, ⟨by (with_reducible repeat (first | apply Kd.R_alloc | apply Kd.R_drewN | apply Kd.R_drew)); exact HO_3.out⟩, ⟨ kz⟩, ⟨ bz⟩⟩
   case rest =>
    clear HC11
    obtain ⟨kq, x3_10, HA, HJ10, HO_3, BK140, HB⟩ := hcut
    cases kq with
    | zero => exact absurd HA.out (by simp [spec_Reads.j1])
    | succ kj10 =>
     have H := HA.out
     clear HA
     simp only [spec_Reads.j1] at H
     have HC17 := Aside0.mk H
     clear H
     go_upto_region 6 with (fail)
     go_cut [39] (fun v39 wc => ∃ (kq : Nat) (x39_16 : Bool), v39 = .bool x39_16 ∧ Aside0 (spec_Reads.j2 kq x3_10 x39_16 a0_0 a0_1 a0_2 a0_3 a0_4 a0_5 a0_6 l0_7 = some r) ∧ Aside0 (kq ≤ kj10) ∧ Aside0 (Kd.R (Kd.int .i64) 2 wc w.heap.size (fun _ => True) u3 x3_10) ∧ Aside0 (wc.heap[gb140]? = some (.cells #[.int .i64 a0_0, .int .i64 a0_1, .int .i64 a0_2, .int .i64 a0_3, .int .i64 a0_4, .int .i64 a0_5, .string a0_6, (.slice A0_7 l0_7.length c0_7)] 87 (0, 0))) ∧ Aside0 (Below w.heap.size w wc))
     case first =>
      have H := HC17.out
      clear HC17
      by_cases c18 : a0_4 ≥ 0
      · rw [if_pos c18] at H
        have c18b0 : decide (0 ≤ a0_4) = true := decide_eq_true c18
        clear c18
        (first | rw [c18b0] | (simp only [i64_w, i32_w]; rw [c18b0]) | skip)
        by_cases c19 : a0_0 = 20
        · rw [if_pos c19] at H
          have c19b0 : (a0_0 == 20) = true := beq_iff_eq.mpr c19
          have c19b1 : (a0_0 != 20) = false := bne_eq_false_iff_eq.mpr c19
          clear c19
          have H' := Aside0.mk H
          clear H
          have hcz20_0 : wc.cell? ⟨gb140, 0, none⟩ = some (.int .i64 a0_0) := (blk_cell BK140.out 0).trans rfl
          have hcz20_1 : wc.cell? ⟨gb140, 1, none⟩ = some (.int .i64 a0_1) := (blk_cell BK140.out 1).trans rfl
          have hcz20_2 : wc.cell? ⟨gb140, 2, none⟩ = some (.int .i64 a0_2) := (blk_cell BK140.out 2).trans rfl
          have hcz20_3 : wc.cell? ⟨gb140, 3, none⟩ = some (.int .i64 a0_3) := (blk_cell BK140.out 3).trans rfl
          have hcz20_4 : wc.cell? ⟨gb140, 4, none⟩ = some (.int .i64 a0_4) := (blk_cell BK140.out 4).trans rfl
          have hcz20_5 : wc.cell? ⟨gb140, 5, none⟩ = some (.int .i64 a0_5) := (blk_cell BK140.out 5).trans rfl
          have hcz20_6 : wc.cell? ⟨gb140, 6, none⟩ = some (.string a0_6) := (blk_cell BK140.out 6).trans rfl
          have hcz20_7 : wc.cell? ⟨gb140, 7, none⟩ = some (.slice A0_7 l0_7.length c0_7) := (blk_cell BK140.out 7).trans rfl
          go_wp2
          go_meet
          case rel => exact ⟨_, (false), sz_, H', ⟨by have := HJ1.out; have := HJ10.out; first | omega | exact Nat.le_refl _⟩, ⟨by (with_reducible repeat (first | apply Kd.R_alloc | apply Kd.R_drewN | apply Kd.R_drew)); exact HO_3.out⟩, ⟨ kz⟩, ⟨ bz⟩⟩
        · rw [if_neg c19] at H
          have c19b0 : (a0_0 == 20) = false := beq_eq_false_iff_ne.mpr c19
          have c19b1 : (a0_0 != 20) = true := bne_iff_ne.mpr c19
          by_cases c21 : a0_0 = 21
          · rw [if_pos c21] at H
            have c21b0 : (a0_0 == 21) = true := beq_iff_eq.mpr c21
            have c21b1 : (a0_0 != 21) = false := bne_eq_false_iff_eq.mpr c21
            clear c21
            have H' := Aside0.mk H
            clear H
            have hcz22_0 : wc.cell? ⟨gb140, 0, none⟩ = some (.int .i64 a0_0) := (blk_cell BK140.out 0).trans rfl
            have hcz22_1 : wc.cell? ⟨gb140, 1, none⟩ = some (.int .i64 a0_1) := (blk_cell BK140.out 1).trans rfl
            have hcz22_2 : wc.cell? ⟨gb140, 2, none⟩ = some (.int .i64 a0_2) := (blk_cell BK140.out 2).trans rfl
            have hcz22_3 : wc.cell? ⟨gb140, 3, none⟩ = some (.int .i64 a0_3) := (blk_cell BK140.out 3).trans rfl
            have hcz22_4 : wc.cell? ⟨gb140, 4, none⟩ = some (.int .i64 a0_4) := (blk_cell BK140.out 4).trans rfl
            have hcz22_5 : wc.cell? ⟨gb140, 5, none⟩ = some (.int .i64 a0_5) := (blk_cell BK140.out 5).trans rfl
            have hcz22_6 : wc.cell? ⟨gb140, 6, none⟩ = some (.string a0_6) := (blk_cell BK140.out 6).trans rfl
            have hcz22_7 : wc.cell? ⟨gb140, 7, none⟩ = some (.slice A0_7 l0_7.length c0_7) := (blk_cell BK140.out 7).trans rfl
            go_wp2
            go_meet
            case rel => exact ⟨_, (false), sz_, H', ⟨by have := HJ1.out; have := HJ10.out; first | omega | exact Nat.le_refl _⟩, ⟨by (with_reducible repeat (first | apply Kd.R_alloc | apply Kd.R_drewN | apply Kd.R_drew)); exact HO_3.out⟩, ⟨ kz⟩, ⟨ bz⟩⟩
          · rw [if_neg c21] at H
            have c21b0 : (a0_0 == 21) = false := beq_eq_false_iff_ne.mpr c21
            have c21b1 : (a0_0 != 21) = true := bne_iff_ne.mpr c21
            have H' := Aside0.mk H
            clear H
            have hcz23_0 : wc.cell? ⟨gb140, 0, none⟩ = some (.int .i64 a0_0) := (blk_cell BK140.out 0).trans rfl
            have hcz23_1 : wc.cell? ⟨gb140, 1, none⟩ = some (.int .i64 a0_1) := (blk_cell BK140.out 1).trans rfl
            have hcz23_2 : wc.cell? ⟨gb140, 2, none⟩ = some (.int .i64 a0_2) := (blk_cell BK140.out 2).trans rfl
            have hcz23_3 : wc.cell? ⟨gb140, 3, none⟩ = some (.int .i64 a0_3) := (blk_cell BK140.out 3).trans rfl
            have hcz23_4 : wc.cell? ⟨gb140, 4, none⟩ = some (.int .i64 a0_4) := (blk_cell BK140.out 4).trans rfl
            have hcz23_5 : wc.cell? ⟨gb140, 5, none⟩ = some (.int .i64 a0_5) := (blk_cell BK140.out 5).trans rfl
            have hcz23_6 : wc.cell? ⟨gb140, 6, none⟩ = some (.string a0_6) := (blk_cell BK140.out 6).trans rfl
            have hcz23_7 : wc.cell? ⟨gb140, 7, none⟩ = some (.slice A0_7 l0_7.length c0_7) := (blk_cell BK140.out 7).trans rfl
            go_wp2
            go_meet
            case rel => exact ⟨_, ((a0_0 != 46)), sz_, H', ⟨by have := HJ1.out; have := HJ10.out; first | omega | exact Nat.le_refl _⟩, ⟨by (with_reducible repeat (first | apply Kd.R_alloc | apply Kd.R_drewN | apply Kd.R_drew)); exact HO_3.out⟩, ⟨ kz⟩, ⟨ bz⟩⟩
      · rw [if_neg c18] at H
        have c18b0 : decide (0 ≤ a0_4) = false := decide_eq_false c18
        clear c18
        (first | rw [c18b0] | (simp only [i64_w, i32_w]; rw [c18b0]) | skip)
        have H' := Aside0.mk H
        clear H
        have hcz24_0 : wc.cell? ⟨gb140, 0, none⟩ = some (.int .i64 a0_0) := (blk_cell BK140.out 0).trans rfl
        have hcz24_1 : wc.cell? ⟨gb140, 1, none⟩ = some (.int .i64 a0_1) := (blk_cell BK140.out 1).trans rfl
        have hcz24_2 : wc.cell? ⟨gb140, 2, none⟩ = some (.int .i64 a0_2) := (blk_cell BK140.out 2).trans rfl
        have hcz24_3 : wc.cell? ⟨gb140, 3, none⟩ = some (.int .i64 a0_3) := (blk_cell BK140.out 3).trans rfl
        have hcz24_4 : wc.cell? ⟨gb140, 4, none⟩ = some (.int .i64 a0_4) := (blk_cell BK140.out 4).trans rfl
        have hcz24_5 : wc.cell? ⟨gb140, 5, none⟩ = some (.int .i64 a0_5) := (blk_cell BK140.out 5).trans rfl
        have hcz24_6 : wc.cell? ⟨gb140, 6, none⟩ = some (.string a0_6) := (blk_cell BK140.out 6).trans rfl
        have hcz24_7 : wc.cell? ⟨gb140, 7, none⟩ = some (.slice A0_7 l0_7.length c0_7) := (blk_cell BK140.out 7).trans rfl
        go_wp2
        go_meet
        case rel => exact ⟨_, (false), sz_, H', ⟨by have := HJ1.out; have := HJ10.out; first | omega | exact Nat.le_refl _⟩, ⟨by (with_reducible repeat (first | apply Kd.R_alloc | apply Kd.R_drewN | apply Kd.R_drew)); exact HO_3.out⟩, ⟨ kz⟩, ⟨ bz⟩⟩
     case rest =>
      clear HC17
      obtain ⟨kq, x39_16, rfl, HA, HJ16, HO_3, BK140, HB⟩ := hcut
      cases kq with
      | zero => exact absurd HA.out (by simp [spec_Reads.j2])
      | succ kj16 =>
       have H := HA.out
       clear HA
       simp only [spec_Reads.j2] at H
       have HC25 := Aside0.mk H
       clear H
       go_upto_if 39 with (fail)
       go_cut [3] (fun v3 wc => ∃ (kq : Nat) (x3_24 : List Int), Aside0 (spec_Reads.j3 kq x3_24 a0_0 a0_1 a0_2 a0_3 a0_4 a0_5 a0_6 l0_7 = some r) ∧ Aside0 (kq ≤ kj16) ∧ Aside0 (Kd.R (Kd.int .i64) 2 wc w.heap.size (fun _ => True) v3 x3_24) ∧ Aside0 (wc.heap[gb140]? = some (.cells #[.int .i64 a0_0, .int .i64 a0_1, .int .i64 a0_2, .int .i64 a0_3, .int .i64 a0_4, .int .i64 a0_5, .string a0_6, (.slice A0_7 l0_7.length c0_7)] 87 (0, 0))) ∧ Aside0 (Below w.heap.size w wc))
       case first =>
        have H := HC25.out
        clear HC25
        by_cases c26 : x39_16 = true
        · subst c26
          have H1 : (if x3_10.length < 17592186044416 then (spec_Reads.j3 kj16 (x3_10 ++ [a0_4]) a0_0 a0_1 a0_2 a0_3 a0_4 a0_5 a0_6 l0_7) else (none)) = some r := by rw [if_pos rfl] at H; exact H
          clear H
          have H := H1
          clear H1
          by_cases c27 : x3_10.length < 17592186044416
          · rw [if_pos c27] at H
            have LMc27 := Aside0.mk c27
            clear c27
            obtain ⟨y150, hy150⟩ : ∃ y_ : List Int, y_ = (x3_10 ++ [a0_4]) := ⟨_, rfl⟩
            replace H : (spec_Reads.j3 kj16 y150 a0_0 a0_1 a0_2 a0_3 a0_4 a0_5 a0_6 l0_7) = some r := by first | (rw [hy150]; with_reducible exact H) | (have H2_ := (Option.bind_some _ _).symm.trans H; rw [hy150]; with_reducible exact H2_) | (have H2_ := (Option.bind_some _ _).symm.trans H; with_reducible exact H2_) | with_reducible exact H | (rw [hy150]; exact H) | exact H
            have Ny150 := Aside0.mk hy150
            clear hy150
            have H' := Aside0.mk H
            clear H
            have hcz28_0 : wc.cell? ⟨gb140, 0, none⟩ = some (.int .i64 a0_0) := (blk_cell BK140.out 0).trans rfl
            have hcz28_1 : wc.cell? ⟨gb140, 1, none⟩ = some (.int .i64 a0_1) := (blk_cell BK140.out 1).trans rfl
            have hcz28_2 : wc.cell? ⟨gb140, 2, none⟩ = some (.int .i64 a0_2) := (blk_cell BK140.out 2).trans rfl
            have hcz28_3 : wc.cell? ⟨gb140, 3, none⟩ = some (.int .i64 a0_3) := (blk_cell BK140.out 3).trans rfl
            have hcz28_4 : wc.cell? ⟨gb140, 4, none⟩ = some (.int .i64 a0_4) := (blk_cell BK140.out 4).trans rfl
            have hcz28_5 : wc.cell? ⟨gb140, 5, none⟩ = some (.int .i64 a0_5) := (blk_cell BK140.out 5).trans rfl
            have hcz28_6 : wc.cell? ⟨gb140, 6, none⟩ = some (.string a0_6) := (blk_cell BK140.out 6).trans rfl
            have hcz28_7 : wc.cell? ⟨gb140, 7, none⟩ = some (.slice A0_7 l0_7.length c0_7) := (blk_cell BK140.out 7).trans rfl
            go_wp2_with (first | ((with_reducible refine gate_builtin (b := .append) (xs := #[.tmp 40, .tmp 43]) rfl ?_); at_builtin; refine Kd.R_append (Kd.int .i64) (w0 := w) w.heap.size rfl (.tmp 40) (.tmp 43) 22 2 (.int .i64 0) 8 rfl Try.underlying22 info2 rfl (by decide) (by omega) u3 x3_10 a0_4 [.int .i64 a0_4] (fun _ => True) (fun _ => False) rfl rfl ?aP (fun _ hk => hk.elim) ?aF ?aO ?aB ?aS ?aL ?_; (case aP => exact rfl); (case aB => exact bz); (case aF => exact (fun _ _ => trivial)); (case aO => exact (rz HO_3.out)); (case aS => exact (below_size bz)); (case aL => have := LMc27.out; omega); intro v151 w29 ho hb hg hat; rw [← Ny150.out] at ho; have n0_ := Aside0.mk (blk_grown (g := gb140) (o := .cells #[.int .i64 a0_0, .int .i64 a0_1, .int .i64 a0_2, .int .i64 a0_3, .int .i64 a0_4, .int .i64 a0_5, .string a0_6, .slice A0_7 l0_7.length c0_7] 87 (0, 0)) kz hg (Kd.R_ne HO_3.out BK140.out (by decide))); have n1_ := Aside0.mk (hb); have n2_ := Aside0.mk (ho); clear BK140; clear HB; clear HO_3; have BK140 := n0_; have HB := n1_; have HO152 := n2_; clear n0_ n1_ n2_; clear ho hb hg hat))
            go_meet
            case rel => exact ⟨_, (y150), H', ⟨by have := HJ1.out; have := HJ10.out; have := HJ16.out; first | omega | exact Nat.le_refl _⟩, ⟨by (with_reducible repeat (first | apply Kd.R_alloc | apply Kd.R_drewN | apply Kd.R_drew)); exact HO152.out⟩, ⟨ kz⟩, ⟨ bz⟩⟩
          · rw [if_neg c27] at H
            exact absurd H (by simp)
        · replace c26 := Bool.eq_false_iff.mpr c26
          subst c26
          have H1 : (spec_Reads.j3 kj16 x3_10 a0_0 a0_1 a0_2 a0_3 a0_4 a0_5 a0_6 l0_7) = some r := by rw [if_neg (show ¬ (false = true) by decide)] at H; exact H
          clear H
          have H := H1
          clear H1
          have H' := Aside0.mk H
          clear H
          go_wp2
          go_meet
          case rel => exact ⟨_, (x3_10), H', ⟨by have := HJ1.out; have := HJ10.out; have := HJ16.out; first | omega | exact Nat.le_refl _⟩, ⟨by (with_reducible repeat (first | apply Kd.R_alloc | apply Kd.R_drewN | apply Kd.R_drew)); exact HO_3.out⟩, ⟨ kz⟩, ⟨ bz⟩⟩
       case rest =>
        clear HC25
        obtain ⟨kq, x3_24, HA, HJ24, HO_3, BK140, HB⟩ := hcut
        cases kq with
        | zero => exact absurd HA.out (by simp [spec_Reads.j3])
        | succ kj24 =>
         have H := HA.out
         clear HA
         simp only [spec_Reads.j3] at H
         have H' := Aside0.mk H
         clear H
         go_wp2
         go_loopg [3, 4] kj24 (fun kq v3 v4 w' => ∃ (x3_5 : List Int) (x4_5 : Int), v4 = .int .i64 x4_5 ∧ Aside0 (spec_Reads.l0 kq x3_5 x4_5 a0_0 a0_1 a0_2 a0_3 a0_4 a0_5 a0_6 l0_7 = some r) ∧ Aside0 (kq ≤ kj24) ∧ Aside0 (Kd.R (Kd.int .i64) 2 w' w.heap.size (fun _ => True) v3 x3_5) ∧ Aside0 (w'.heap[gb140]? = some (.cells #[.int .i64 a0_0, .int .i64 a0_1, .int .i64 a0_2, .int .i64 a0_3, .int .i64 a0_4, .int .i64 a0_5, .string a0_6, (.slice A0_7 l0_7.length c0_7)] 87 (0, 0))) ∧ Aside0 (Below w.heap.size w w'))
         case atStart => exact ⟨(x3_24), (0), sz_, H', ⟨Nat.le_refl _⟩, ⟨by (with_reducible repeat (first | apply Kd.R_alloc | apply Kd.R_drewN | apply Kd.R_drew)); exact HO_3.out⟩, ⟨ kz⟩, ⟨ bz⟩⟩
         case round =>
          clear H'
          obtain ⟨x3_5, x4_5, rfl, HA, HK5, HO_3, BK140, HB⟩ := hrel
          cases gk with
          | zero => exact absurd HA.out (by simp [spec_Reads.l0])
          | succ k5 =>
           have H := HA.out
           clear HA
           simp only [spec_Reads.l0] at H
           by_cases c30 : x4_5 < (l0_7.length : Int)
           · rw [if_pos c30] at H
             have c30b0 : decide (x4_5 < (l0_7.length : Int)) = true := decide_eq_true c30
             clear c30
             by_cases c31 : 0 ≤ x4_5
             · rw [if_pos c31] at H
               have c31b0 : decide (0 ≤ x4_5) = true := decide_eq_true c31
               clear c31
               by_cases c32 : (rd l0_7 x4_5) ≥ 0
               · rw [if_pos c32] at H
                 have c32b0 : decide (0 ≤ (rd l0_7 x4_5)) = true := decide_eq_true c32
                 clear c32
                 by_cases c33 : x3_5.length < 17592186044416
                 · rw [if_pos c33] at H
                   have LMc33 := Aside0.mk c33
                   clear c33
                   obtain ⟨y155, hy155⟩ : ∃ y_ : List Int, y_ = (x3_5 ++ [rd l0_7 x4_5]) := ⟨_, rfl⟩
                   replace H : (spec_Reads.l0 k5 y155 (wrap64 (x4_5 + 1)) a0_0 a0_1 a0_2 a0_3 a0_4 a0_5 a0_6 l0_7) = some r := by first | (rw [hy155]; with_reducible exact H) | (have H2_ := (Option.bind_some _ _).symm.trans H; rw [hy155]; with_reducible exact H2_) | (have H2_ := (Option.bind_some _ _).symm.trans H; with_reducible exact H2_) | with_reducible exact H | (rw [hy155]; exact H) | exact H
                   have Ny155 := Aside0.mk hy155
                   clear hy155
                   have H' := Aside0.mk H
                   clear H
                   have hcz34_0 : wr.cell? ⟨gb140, 0, none⟩ = some (.int .i64 a0_0) := (blk_cell BK140.out 0).trans rfl
                   have hcz34_1 : wr.cell? ⟨gb140, 1, none⟩ = some (.int .i64 a0_1) := (blk_cell BK140.out 1).trans rfl
                   have hcz34_2 : wr.cell? ⟨gb140, 2, none⟩ = some (.int .i64 a0_2) := (blk_cell BK140.out 2).trans rfl
                   have hcz34_3 : wr.cell? ⟨gb140, 3, none⟩ = some (.int .i64 a0_3) := (blk_cell BK140.out 3).trans rfl
                   have hcz34_4 : wr.cell? ⟨gb140, 4, none⟩ = some (.int .i64 a0_4) := (blk_cell BK140.out 4).trans rfl
                   have hcz34_5 : wr.cell? ⟨gb140, 5, none⟩ = some (.int .i64 a0_5) := (blk_cell BK140.out 5).trans rfl
                   have hcz34_6 : wr.cell? ⟨gb140, 6, none⟩ = some (.string a0_6) := (blk_cell BK140.out 6).trans rfl
                   have hcz34_7 : wr.cell? ⟨gb140, 7, none⟩ = some (.slice A0_7 l0_7.length c0_7) := (blk_cell BK140.out 7).trans rfl
                   have p153 : 0 ≤ (x4_5 : Int) := of_decide_eq_true az
                   have q153 : x4_5 < (l0_7.length : Int) := of_decide_eq_true az
                   obtain ⟨ad153, e153, hx153_0⟩ := Kd.at_int HR0_7.out x4_5 p153 q153
                   cases e153
                   replace hx153_0 := ck HB hx153_0
                   replace p153 := eq_true p153
                   replace q153 := eq_true q153
                   have p154 : 0 ≤ (x4_5 : Int) := of_decide_eq_true az
                   have q154 : x4_5 < (l0_7.length : Int) := of_decide_eq_true az
                   obtain ⟨ad154, e154, hx154_0⟩ := Kd.at_int HR0_7.out x4_5 p154 q154
                   obtain rfl : ad153 = ad154 := (by injection e154)
                   replace hx154_0 := ck HB hx154_0
                   replace p154 := eq_true p154
                   replace q154 := eq_true q154
                   go_wp2_with (first | ((with_reducible refine gate_builtin (b := .append) (xs := #[.tmp 58, .tmp 64]) rfl ?_); at_builtin; refine Kd.R_append (Kd.int .i64) (w0 := w) w.heap.size rfl (.tmp 58) (.tmp 64) 22 2 (.int .i64 0) 8 rfl Try.underlying22 info2 rfl (by decide) (by omega) u3 x3_5 (rd l0_7 x4_5) [.int .i64 (rd l0_7 x4_5)] (fun _ => True) (fun _ => False) rfl rfl ?aP (fun _ hk => hk.elim) ?aF ?aO ?aB ?aS ?aL ?_; (case aP => exact rfl); (case aB => exact bz); (case aF => exact (fun _ _ => trivial)); (case aO => exact (rz HO_3.out)); (case aS => exact (below_size bz)); (case aL => have := LMc33.out; omega); intro v156 w35 ho hb hg hat; rw [← Ny155.out] at ho; have n0_ := Aside0.mk (blk_grown (g := gb140) (o := .cells #[.int .i64 a0_0, .int .i64 a0_1, .int .i64 a0_2, .int .i64 a0_3, .int .i64 a0_4, .int .i64 a0_5, .string a0_6, .slice (some ad153) l0_7.length c0_7] 87 (0, 0)) kz hg (Kd.R_ne HO_3.out BK140.out (by decide))); have n1_ := Aside0.mk (hb); have n2_ := Aside0.mk (ho); clear BK140; clear HB; clear HO_3; have BK140 := n0_; have HB := n1_; have HO157 := n2_; clear n0_ n1_ n2_; clear ho hb hg hat))
                   go_roundg k5
                   case measure => have := HJ1.out; have := HJ10.out; have := HJ16.out; have := HJ24.out; have := HK5.out; omega
                   case rel => exact ⟨(y155), (wrap64 (x4_5 + 1)), sz_, H', ⟨by have := HJ1.out; have := HJ10.out; have := HJ16.out; have := HJ24.out; have := HK5.out; omega⟩, ⟨by (with_reducible repeat (first | apply Kd.R_alloc | apply Kd.R_drewN | apply Kd.R_drew)); exact HO157.out⟩, ⟨ kz⟩, ⟨ bz⟩⟩
                 · rw [if_neg c33] at H
                   exact absurd H (by simp)
               · rw [if_neg c32] at H
                 have c32b0 : decide (0 ≤ (rd l0_7 x4_5)) = false := decide_eq_false c32
                 clear c32
                 have H' := Aside0.mk H
                 clear H
                 have hcz36_0 : wr.cell? ⟨gb140, 0, none⟩ = some (.int .i64 a0_0) := (blk_cell BK140.out 0).trans rfl
                 have hcz36_1 : wr.cell? ⟨gb140, 1, none⟩ = some (.int .i64 a0_1) := (blk_cell BK140.out 1).trans rfl
                 have hcz36_2 : wr.cell? ⟨gb140, 2, none⟩ = some (.int .i64 a0_2) := (blk_cell BK140.out 2).trans rfl
                 have hcz36_3 : wr.cell? ⟨gb140, 3, none⟩ = some (.int .i64 a0_3) := (blk_cell BK140.out 3).trans rfl
                 have hcz36_4 : wr.cell? ⟨gb140, 4, none⟩ = some (.int .i64 a0_4) := (blk_cell BK140.out 4).trans rfl
                 have hcz36_5 : wr.cell? ⟨gb140, 5, none⟩ = some (.int .i64 a0_5) := (blk_cell BK140.out 5).trans rfl
                 have hcz36_6 : wr.cell? ⟨gb140, 6, none⟩ = some (.string a0_6) := (blk_cell BK140.out 6).trans rfl
                 have hcz36_7 : wr.cell? ⟨gb140, 7, none⟩ = some (.slice A0_7 l0_7.length c0_7) := (blk_cell BK140.out 7).trans rfl
                 have p153 : 0 ≤ (x4_5 : Int) := of_decide_eq_true az
                 have q153 : x4_5 < (l0_7.length : Int) := of_decide_eq_true az
                 obtain ⟨ad153, e153, hx153_0⟩ := Kd.at_int HR0_7.out x4_5 p153 q153
                 cases e153
                 replace hx153_0 := ck HB hx153_0
                 replace p153 := eq_true p153
                 replace q153 := eq_true q153
                 go_wp2
                 go_roundg k5
                 case measure => have := HJ1.out; have := HJ10.out; have := HJ16.out; have := HJ24.out; have := HK5.out; omega
                 case rel => exact ⟨(x3_5), (wrap64 (x4_5 + 1)), sz_, H', ⟨by have := HJ1.out; have := HJ10.out; have := HJ16.out; have := HJ24.out; have := HK5.out; omega⟩, ⟨by (with_reducible repeat (first | apply Kd.R_alloc | apply Kd.R_drewN | apply Kd.R_drew)); exact HO_3.out⟩, ⟨ kz⟩, ⟨ bz⟩⟩
             · rw [if_neg c31] at H
               exact absurd H (by simp)
           · rw [if_neg c30] at H
             have c30b0 : decide (x4_5 < (l0_7.length : Int)) = false := decide_eq_false c30
             clear c30
             obtain rfl := Option.some.inj H
             have hcz37_0 : wr.cell? ⟨gb140, 0, none⟩ = some (.int .i64 a0_0) := (blk_cell BK140.out 0).trans rfl
             have hcz37_1 : wr.cell? ⟨gb140, 1, none⟩ = some (.int .i64 a0_1) := (blk_cell BK140.out 1).trans rfl
             have hcz37_2 : wr.cell? ⟨gb140, 2, none⟩ = some (.int .i64 a0_2) := (blk_cell BK140.out 2).trans rfl
             have hcz37_3 : wr.cell? ⟨gb140, 3, none⟩ = some (.int .i64 a0_3) := (blk_cell BK140.out 3).trans rfl
             have hcz37_4 : wr.cell? ⟨gb140, 4, none⟩ = some (.int .i64 a0_4) := (blk_cell BK140.out 4).trans rfl
             have hcz37_5 : wr.cell? ⟨gb140, 5, none⟩ = some (.int .i64 a0_5) := (blk_cell BK140.out 5).trans rfl
             have hcz37_6 : wr.cell? ⟨gb140, 6, none⟩ = some (.string a0_6) := (blk_cell BK140.out 6).trans rfl
             have hcz37_7 : wr.cell? ⟨gb140, 7, none⟩ = some (.slice A0_7 l0_7.length c0_7) := (blk_cell BK140.out 7).trans rfl
             go_wp2
             go_ret
             exact ⟨_, by first | rfl | (simp [errW_none, errW_some] <;> rfl) | (simp [*, errW_none, errW_some] <;> rfl), by (with_reducible repeat (first | apply Kd.R_alloc | apply Kd.R_drewN | apply Kd.R_drew)); exact HO_3.out, bz⟩

set_option linter.unusedVariables false
set_option linter.unusedSimpArgs false

mutual
def spec_l18Most.l0 : Nat → Int → Int → Int → List Int → List (S85) → Option (Int)
 | 0, _, _, _, _, _ => none
 | k + 1, x3, x4, x329000, x329001, x329002 => if x4 < (x329002.length : Int) then (spec_l18Most.l1 k x3 x4 0 x329000 x329001 x329002) else (some x3)
def spec_l18Most.l1 : Nat → Int → Int → Int → Int → List Int → List (S85) → Option (Int)
 | 0, _, _, _, _, _, _ => none
 | k + 1, x3, x4, x5, x329000, x329001, x329002 => if 0 ≤ x4 then (if x4 < (x329002.length : Int) then (if x5 < (((rd_T85 x329002 x4).f0).length : Int) then (if 0 ≤ x5 then ((spec_Reads.f k ((rd_T87 ((rd_T85 x329002 x4).f0) x5).f0) ((rd_T87 ((rd_T85 x329002 x4).f0) x5).f1) ((rd_T87 ((rd_T85 x329002 x4).f0) x5).f2) ((rd_T87 ((rd_T85 x329002 x4).f0) x5).f3) ((rd_T87 ((rd_T85 x329002 x4).f0) x5).f4) ((rd_T87 ((rd_T85 x329002 x4).f0) x5).f5) ((rd_T87 ((rd_T85 x329002 x4).f0) x5).f6) ((rd_T87 ((rd_T85 x329002 x4).f0) x5).f7)).bind fun t333 => ((some (([(rd_T87 ((rd_T85 x329002 x4).f0) x5).f1] : List Int) : List Int)).bind fun y336 => (if t333.length + y336.length < 17592186044416 then (spec_l18Most.l2 k x3 x4 x5 (t333 ++ y336) 0 x329000 x329001 x329002) else (none)))) else (none)) else (spec_l18Most.l0 k x3 (wrap64 (x4 + 1)) x329000 x329001 x329002)) else (none)) else (none)
def spec_l18Most.l2 : Nat → Int → Int → Int → List Int → Int → Int → List Int → List (S85) → Option (Int)
 | 0, _, _, _, _, _, _, _, _ => none
 | k + 1, x3, x4, x5, x7, x8, x329000, x329001, x329002 => if x8 < (x7.length : Int) then (if 0 ≤ x8 then (if (rd x7 x8) ≥ x3 then (if (rd x7 x8) < 1048576 then (spec_l18Most.l2 k (wrap64 ((rd x7 x8) + 1)) x4 x5 x7 (wrap64 (x8 + 1)) x329000 x329001 x329002) else (spec_l18Most.l2 k x3 x4 x5 x7 (wrap64 (x8 + 1)) x329000 x329001 x329002)) else (spec_l18Most.l2 k x3 x4 x5 x7 (wrap64 (x8 + 1)) x329000 x329001 x329002)) else (none)) else (spec_l18Most.l1 k x3 x4 (wrap64 (x5 + 1)) x329000 x329001 x329002)
end
def spec_l18Most.f (k : Nat) (a0_0 : Int) (l0_1 : List Int) (l0_2 : List (S85)) : Option (Int) := spec_l18Most.l0 k 0 0 a0_0 l0_1 l0_2
set_option maxHeartbeats 8000000 in
set_option maxRecDepth 100000 in
theorem spec_l18Most.calls (k : Nat) (a0_0 : Int) (A0_1 : Option Addr) (c0_1 : Nat) (l0_1 : List Int) (A0_2 : Option Addr) (c0_2 : Nat) (l0_2 : List (S85)) (r : Int) (w : World) (hr0_1 : Kd.C (Kd.int .i64) w A0_1 l0_1.length l0_1) (hc0_1 : l0_1.length ≤ c0_1) (hr0_2 : Kd.C k85 w A0_2 l0_2.length l0_2) (hc0_2 : l0_2.length ≤ c0_2) (h : spec_l18Most.f k a0_0 l0_1 l0_2 = some r) :
 Calls Try.prog 121 #[.agg #[.int .i64 a0_0, .slice A0_1 l0_1.length c0_1, .slice A0_2 l0_2.length c0_2]] w fun e w' => e = .returned (.int .i64 r) ∧ Below w.heap.size w w' := by
 have hu29 := Try.underlying29
 have hu87 := Try.underlying87
 have HR0_1 := Aside0.mk hr0_1
 have HC0_1 := Aside0.mk hc0_1
 clear hr0_1 hc0_1
 have HR0_2 := Aside0.mk hr0_2
 have HC0_2 := Aside0.mk hc0_2
 clear hr0_2 hc0_2
 have HB := Aside0.mk (Below.refl w.heap.size w)
 have H : (spec_l18Most.l0 k 0 0 a0_0 l0_1 l0_2) = some r := h
 clear h
 have H' := Aside0.mk H
 clear H
 go_enter Try.func121, Try.ntmps121
 go_wp2_with (first | ((with_reducible refine gate_dst (N := 1) rfl ?_); refine box_event ?hg (N := 1) ?hd (cs := #[.int .i64 a0_0, .slice A0_1 l0_1.length c0_1, .slice A0_2 l0_2.length c0_2]) (t := 29) ?hr ?_; (case hd => rfl); (case hg => rfl); (case hr => first | (go_simp; done) | (go_simp; rfl)); intro gb328 hg w2 hbox hb; have n0_ := Aside0.mk (below_step bz hb); have n1_ := Aside0.mk (hbox); have n2_ := Aside0.mk ((by rw [hg]; exact (below_size bz) : w.heap.size ≤ gb328)); have n3_ := Aside0.mk ((by rw [hg]; exact (below_size bz) : w.heap.size ≤ gb328)); clear HB; have HB := n0_; have BK328 := n1_; have GW328 := n2_; have GE328 := n3_; clear n0_ n1_ n2_ n3_; clear hb hbox hg))
 go_loopg [3, 4] k (fun kq v3 v4 w' => ∃ (x3_1 : Int) (x4_1 : Int), v3 = .int .i64 x3_1 ∧ v4 = .int .i64 x4_1 ∧ Aside0 (spec_l18Most.l0 kq x3_1 x4_1 a0_0 l0_1 l0_2 = some r) ∧ Aside0 (kq ≤ k) ∧ Aside0 (w'.heap[gb328]? = some (.cells #[.int .i64 a0_0, (.slice A0_1 l0_1.length c0_1), (.slice A0_2 l0_2.length c0_2)] 29 (0, 0))) ∧ Aside0 (Below w.heap.size w w'))
 case atStart => exact ⟨(0), (0), sz_, sz_, H', ⟨Nat.le_refl _⟩, ⟨ kz⟩, ⟨ bz⟩⟩
 case round =>
  clear H'
  obtain ⟨x3_1, x4_1, rfl, rfl, HA, HK1, BK328, HB⟩ := hrel
  cases gk with
  | zero => exact absurd HA.out (by simp [spec_l18Most.l0])
  | succ k1 =>
   have H := HA.out
   clear HA
   simp only [spec_l18Most.l0] at H
   by_cases c3 : x4_1 < (l0_2.length : Int)
   · rw [if_pos c3] at H
     have c3b0 : decide (x4_1 < (l0_2.length : Int)) = true := decide_eq_true c3
     clear c3
     have H' := Aside0.mk H
     clear H
     have hcz4_0 : wr.cell? ⟨gb328, 0, none⟩ = some (.int .i64 a0_0) := (blk_cell BK328.out 0).trans rfl
     have hcz4_1 : wr.cell? ⟨gb328, 1, none⟩ = some (.slice A0_1 l0_1.length c0_1) := (blk_cell BK328.out 1).trans rfl
     have hcz4_2 : wr.cell? ⟨gb328, 2, none⟩ = some (.slice A0_2 l0_2.length c0_2) := (blk_cell BK328.out 2).trans rfl
     go_wp2
     go_loopg [3, 5] k1 (fun kq v3 v5 w' => ∃ (x3_2 : Int) (x5_2 : Int), v3 = .int .i64 x3_2 ∧ v5 = .int .i64 x5_2 ∧ Aside0 (spec_l18Most.l1 kq x3_2 x4_1 x5_2 a0_0 l0_1 l0_2 = some r) ∧ Aside0 (kq ≤ k1) ∧ Aside0 (w'.heap[gb328]? = some (.cells #[.int .i64 a0_0, (.slice A0_1 l0_1.length c0_1), (.slice A0_2 l0_2.length c0_2)] 29 (0, 0))) ∧ Aside0 (Below w.heap.size w w'))
     case atStart => exact ⟨(x3_1), (0), sz_, sz_, H', ⟨Nat.le_refl _⟩, ⟨ kz⟩, ⟨ bz⟩⟩
     case round =>
      clear H'
      obtain ⟨x3_2, x5_2, rfl, rfl, HA, HK2, BK328, HB⟩ := hrel
      cases gk with
      | zero => exact absurd HA.out (by simp [spec_l18Most.l1])
      | succ k2 =>
       have H := HA.out
       clear HA
       simp only [spec_l18Most.l1] at H
       by_cases c5 : 0 ≤ x4_1
       · rw [if_pos c5] at H
         have c5b0 : decide (0 ≤ x4_1) = true := decide_eq_true c5
         clear c5
         by_cases c6 : x4_1 < (l0_2.length : Int)
         · rw [if_pos c6] at H
           have c6b0 : decide (x4_1 < (l0_2.length : Int)) = true := decide_eq_true c6
           clear c6
           by_cases c7 : x5_2 < (((rd_T85 l0_2 x4_1).f0).length : Int)
           · rw [if_pos c7] at H
             have c7b0 : decide (x5_2 < (((rd_T85 l0_2 x4_1).f0).length : Int)) = true := decide_eq_true c7
             clear c7
             by_cases c8 : 0 ≤ x5_2
             · rw [if_pos c8] at H
               have c8b0 : decide (0 ≤ x5_2) = true := decide_eq_true c8
               clear c8
               replace H := Option.bind_eq_some_iff.mp H
               obtain ⟨t333, A90, H⟩ := H
               replace H : ((some (([(rd_T87 ((rd_T85 l0_2 x4_1).f0) x5_2).f1] : List Int) : List Int)).bind fun y336 => (if t333.length + y336.length < 17592186044416 then (spec_l18Most.l2 k2 x3_2 x4_1 x5_2 (t333 ++ y336) 0 a0_0 l0_1 l0_2) else (none))) = some r := H
               have A9 := Aside0.mk A90
               clear A90
               obtain ⟨y336, hy336⟩ : ∃ y_ : List Int, y_ = (([(rd_T87 ((rd_T85 l0_2 x4_1).f0) x5_2).f1] : List Int)) := ⟨_, rfl⟩
               replace H : (if t333.length + y336.length < 17592186044416 then (spec_l18Most.l2 k2 x3_2 x4_1 x5_2 (t333 ++ y336) 0 a0_0 l0_1 l0_2) else (none)) = some r := by first | (rw [hy336]; with_reducible exact H) | (have H2_ := (Option.bind_some _ _).symm.trans H; rw [hy336]; with_reducible exact H2_) | (have H2_ := (Option.bind_some _ _).symm.trans H; with_reducible exact H2_) | with_reducible exact H | (rw [hy336]; exact H) | exact H
               have Ny336 := Aside0.mk hy336
               clear hy336
               by_cases c10 : t333.length + y336.length < 17592186044416
               · rw [if_pos c10] at H
                 have LMc10 := Aside0.mk c10
                 clear c10
                 obtain ⟨y339, hy339⟩ : ∃ y_ : List Int, y_ = (t333 ++ y336) := ⟨_, rfl⟩
                 replace H : (spec_l18Most.l2 k2 x3_2 x4_1 x5_2 y339 0 a0_0 l0_1 l0_2) = some r := by first | (rw [hy339]; with_reducible exact H) | (have H2_ := (Option.bind_some _ _).symm.trans H; rw [hy339]; with_reducible exact H2_) | (have H2_ := (Option.bind_some _ _).symm.trans H; with_reducible exact H2_) | with_reducible exact H | (rw [hy339]; exact H) | exact H
                 have Ny339 := Aside0.mk hy339
                 clear hy339
                 have H' := Aside0.mk H
                 clear H
                 have hcz11_0 : wr.cell? ⟨gb328, 0, none⟩ = some (.int .i64 a0_0) := (blk_cell BK328.out 0).trans rfl
                 have hcz11_1 : wr.cell? ⟨gb328, 1, none⟩ = some (.slice A0_1 l0_1.length c0_1) := (blk_cell BK328.out 1).trans rfl
                 have hcz11_2 : wr.cell? ⟨gb328, 2, none⟩ = some (.slice A0_2 l0_2.length c0_2) := (blk_cell BK328.out 2).trans rfl
                 have p329 : 0 ≤ (x4_1 : Int) := of_decide_eq_true az
                 have q329 : x4_1 < (l0_2.length : Int) := of_decide_eq_true az
                 obtain ⟨ad329, A329_0, c329_0, e329, hx329_0, hl329_0, hi329_0⟩ := at_T85 HR0_2.out x4_1 p329 q329
                 cases e329
                 replace hx329_0 := ck HB hx329_0
                 have HR329_0 := Aside0.mk hi329_0
                 have HC329_0 := Aside0.mk hl329_0
                 clear hi329_0 hl329_0
                 replace p329 := eq_true p329
                 replace q329 := eq_true q329
                 have p330 : 0 ≤ (x4_1 : Int) := of_decide_eq_true az
                 have q330 : x4_1 < (l0_2.length : Int) := of_decide_eq_true az
                 obtain ⟨ad330, A330_0, c330_0, e330, hx330_0, hl330_0, hi330_0⟩ := at_T85 HR0_2.out x4_1 p330 q330
                 obtain rfl : ad329 = ad330 := (by injection e330)
                 replace hx330_0 := ck HB hx330_0
                 have HR330_0 := Aside0.mk hi330_0
                 have HC330_0 := Aside0.mk hl330_0
                 clear hi330_0 hl330_0
                 replace p330 := eq_true p330
                 replace q330 := eq_true q330
                 have ea_ := Option.some.inj (hx329_0.symm.trans hx330_0)
                 injection ea_ with ea_ en_ ec_
                 subst ea_
                 subst ec_
                 clear en_
                 have p331 : 0 ≤ (x5_2 : Int) := of_decide_eq_true az
                 have q331 : x5_2 < (((rd_T85 l0_2 x4_1).f0).length : Int) := of_decide_eq_true az
                 obtain ⟨ad331, A331_7, c331_7, e331, hx331_0, hx331_1, hx331_2, hx331_3, hx331_4, hx331_5, hx331_6, hx331_7, hl331_7, hi331_7⟩ := at_T87 HR330_0.out x5_2 p331 q331
                 cases e331
                 replace hx331_0 := ck HB hx331_0
                 replace hx331_1 := ck HB hx331_1
                 replace hx331_2 := ck HB hx331_2
                 replace hx331_3 := ck HB hx331_3
                 replace hx331_4 := ck HB hx331_4
                 replace hx331_5 := ck HB hx331_5
                 replace hx331_6 := ck HB hx331_6
                 replace hx331_7 := ck HB hx331_7
                 have HR331_7 := Aside0.mk hi331_7
                 have HC331_7 := Aside0.mk hl331_7
                 clear hi331_7 hl331_7
                 replace p331 := eq_true p331
                 replace q331 := eq_true q331
                 try go_wp2_with (first | ((with_reducible refine gate_dst (N := 6) rfl ?_); refine box_event ?hg (N := 6) ?hd (cs := #[.int .i64 0, .int .i64 0, .int .i64 0, .int .i64 0, .int .i64 0, .int .i64 0, .string (⟨#[]⟩ : ByteArray), .slice none 0 0]) (t := 87) ?hr ?_; (case hd => rfl); (case hg => rfl); (case hr => first | (go_simp; done) | (go_simp; rfl)); intro gb332 hg w12 hbox hb; have n0_ := Aside0.mk (blk_below (g := gb328) (o := .cells #[.int .i64 a0_0, .slice A0_1 l0_1.length c0_1, .slice (some ad329) l0_2.length c0_2] 29 (0, 0)) kz hb); have n1_ := Aside0.mk (below_step bz hb); have n2_ := Aside0.mk (hbox); have n3_ := Aside0.mk ((by rw [hg]; exact (below_size bz) : w.heap.size ≤ gb332)); have n4_ := Aside0.mk ((by rw [hg]; exact (below_size bz) : w.heap.size ≤ gb332)); have n5_ := Aside0.mk ((by rw [hg]; exact Nat.ne_of_lt (blk_lt (g := gb328) (o := .cells #[.int .i64 a0_0, .slice A0_1 l0_1.length c0_1, .slice (some ad329) l0_2.length c0_2] 29 (0, 0)) kz) : gb328 ≠ gb332)); have n6_ := Aside0.mk ((by rw [hg]; exact Nat.ne_of_gt (blk_lt (g := gb328) (o := .cells #[.int .i64 a0_0, .slice A0_1 l0_1.length c0_1, .slice (some ad329) l0_2.length c0_2] 29 (0, 0)) kz) : gb332 ≠ gb328)); clear BK328; clear HB; have BK328 := n0_; have HB := n1_; have BK332 := n2_; have GW332 := n3_; have GE332 := n4_; have NB328_332 := n5_; have NB332_328 := n6_; clear n0_ n1_ n2_ n3_ n4_ n5_ n6_; clear hb hbox hg; have hnb13 := NB332_328.out; have hnc13 := NB328_332.out; have hcz14_0 : w12.cell? ⟨gb332, 0, none⟩ = some (.int .i64 0) := (blk_cell BK332.out 0).trans rfl; have hcz14_1 : w12.cell? ⟨gb332, 1, none⟩ = some (.int .i64 0) := (blk_cell BK332.out 1).trans rfl; have hcz14_2 : w12.cell? ⟨gb332, 2, none⟩ = some (.int .i64 0) := (blk_cell BK332.out 2).trans rfl; have hcz14_3 : w12.cell? ⟨gb332, 3, none⟩ = some (.int .i64 0) := (blk_cell BK332.out 3).trans rfl; have hcz14_4 : w12.cell? ⟨gb332, 4, none⟩ = some (.int .i64 0) := (blk_cell BK332.out 4).trans rfl; have hcz14_5 : w12.cell? ⟨gb332, 5, none⟩ = some (.int .i64 0) := (blk_cell BK332.out 5).trans rfl; have hcz14_6 : w12.cell? ⟨gb332, 6, none⟩ = some (.string (⟨#[]⟩ : ByteArray)) := (blk_cell BK332.out 6).trans rfl; have hcz14_7 : w12.cell? ⟨gb332, 7, none⟩ = some (.slice none 0 0) := (blk_cell BK332.out 7).trans rfl; have hfz14_0 := blk_frozen BK332.out 0; have hfz14_1 := blk_frozen BK332.out 1; have hfz14_2 := blk_frozen BK332.out 2; have hfz14_3 := blk_frozen BK332.out 3; have hfz14_4 := blk_frozen BK332.out 4; have hfz14_5 := blk_frozen BK332.out 5; have hfz14_6 := blk_frozen BK332.out 6; have hfz14_7 := blk_frozen BK332.out 7))
                 have n0_ : Aside0 (((((((((w12.setCell ⟨gb332, 0, none⟩ (.int .i64 ((rd_T87 ((rd_T85 l0_2 x4_1).f0) x5_2).f0))).setCell ⟨gb332, 1, none⟩ (.int .i64 ((rd_T87 ((rd_T85 l0_2 x4_1).f0) x5_2).f1))).setCell ⟨gb332, 2, none⟩ (.int .i64 ((rd_T87 ((rd_T85 l0_2 x4_1).f0) x5_2).f2))).setCell ⟨gb332, 3, none⟩ (.int .i64 ((rd_T87 ((rd_T85 l0_2 x4_1).f0) x5_2).f3))).setCell ⟨gb332, 4, none⟩ (.int .i64 ((rd_T87 ((rd_T85 l0_2 x4_1).f0) x5_2).f4))).setCell ⟨gb332, 5, none⟩ (.int .i64 ((rd_T87 ((rd_T85 l0_2 x4_1).f0) x5_2).f5))).setCell ⟨gb332, 6, none⟩ (.string ((rd_T87 ((rd_T85 l0_2 x4_1).f0) x5_2).f6))).setCell ⟨gb332, 7, none⟩ (.slice A331_7 ((rd_T87 ((rd_T85 l0_2 x4_1).f0) x5_2).f7).length c331_7)).heap[gb328]? = some (.cells #[.int .i64 a0_0, .slice A0_1 l0_1.length c0_1, .slice (some ad329) l0_2.length c0_2] 29 (0, 0))) := ⟨by (with_reducible repeat (first | refine blk_drewN ?_ _ | refine blk_drew ?_ | refine blk_alloc ?_ _)); refine blk_far ?_ NB328_332.out _; (with_reducible repeat (first | refine blk_drewN ?_ _ | refine blk_drew ?_ | refine blk_alloc ?_ _)); refine blk_far ?_ NB328_332.out _; (with_reducible repeat (first | refine blk_drewN ?_ _ | refine blk_drew ?_ | refine blk_alloc ?_ _)); refine blk_far ?_ NB328_332.out _; (with_reducible repeat (first | refine blk_drewN ?_ _ | refine blk_drew ?_ | refine blk_alloc ?_ _)); refine blk_far ?_ NB328_332.out _; (with_reducible repeat (first | refine blk_drewN ?_ _ | refine blk_drew ?_ | refine blk_alloc ?_ _)); refine blk_far ?_ NB328_332.out _; (with_reducible repeat (first | refine blk_drewN ?_ _ | refine blk_drew ?_ | refine blk_alloc ?_ _)); refine blk_far ?_ NB328_332.out _; (with_reducible repeat (first | refine blk_drewN ?_ _ | refine blk_drew ?_ | refine blk_alloc ?_ _)); refine blk_far ?_ NB328_332.out _; (with_reducible repeat (first | refine blk_drewN ?_ _ | refine blk_drew ?_ | refine blk_alloc ?_ _)); refine blk_far ?_ NB328_332.out _; (with_reducible repeat (first | refine blk_drewN ?_ _ | refine blk_drew ?_ | refine blk_alloc ?_ _)); exact BK328.out⟩
                 have n1_ : Aside0 (((((((((w12.setCell ⟨gb332, 0, none⟩ (.int .i64 ((rd_T87 ((rd_T85 l0_2 x4_1).f0) x5_2).f0))).setCell ⟨gb332, 1, none⟩ (.int .i64 ((rd_T87 ((rd_T85 l0_2 x4_1).f0) x5_2).f1))).setCell ⟨gb332, 2, none⟩ (.int .i64 ((rd_T87 ((rd_T85 l0_2 x4_1).f0) x5_2).f2))).setCell ⟨gb332, 3, none⟩ (.int .i64 ((rd_T87 ((rd_T85 l0_2 x4_1).f0) x5_2).f3))).setCell ⟨gb332, 4, none⟩ (.int .i64 ((rd_T87 ((rd_T85 l0_2 x4_1).f0) x5_2).f4))).setCell ⟨gb332, 5, none⟩ (.int .i64 ((rd_T87 ((rd_T85 l0_2 x4_1).f0) x5_2).f5))).setCell ⟨gb332, 6, none⟩ (.string ((rd_T87 ((rd_T85 l0_2 x4_1).f0) x5_2).f6))).setCell ⟨gb332, 7, none⟩ (.slice A331_7 ((rd_T87 ((rd_T85 l0_2 x4_1).f0) x5_2).f7).length c331_7)).heap[gb332]? = some (.cells #[.int .i64 ((rd_T87 ((rd_T85 l0_2 x4_1).f0) x5_2).f0), .int .i64 ((rd_T87 ((rd_T85 l0_2 x4_1).f0) x5_2).f1), .int .i64 ((rd_T87 ((rd_T85 l0_2 x4_1).f0) x5_2).f2), .int .i64 ((rd_T87 ((rd_T85 l0_2 x4_1).f0) x5_2).f3), .int .i64 ((rd_T87 ((rd_T85 l0_2 x4_1).f0) x5_2).f4), .int .i64 ((rd_T87 ((rd_T85 l0_2 x4_1).f0) x5_2).f5), .string ((rd_T87 ((rd_T85 l0_2 x4_1).f0) x5_2).f6), .slice A331_7 ((rd_T87 ((rd_T85 l0_2 x4_1).f0) x5_2).f7).length c331_7] 87 (0, 0))) := ⟨by (with_reducible repeat (first | refine blk_drewN ?_ _ | refine blk_drew ?_ | refine blk_alloc ?_ _)); refine blk_put (cs := #[.int .i64 ((rd_T87 ((rd_T85 l0_2 x4_1).f0) x5_2).f0), .int .i64 ((rd_T87 ((rd_T85 l0_2 x4_1).f0) x5_2).f1), .int .i64 ((rd_T87 ((rd_T85 l0_2 x4_1).f0) x5_2).f2), .int .i64 ((rd_T87 ((rd_T85 l0_2 x4_1).f0) x5_2).f3), .int .i64 ((rd_T87 ((rd_T85 l0_2 x4_1).f0) x5_2).f4), .int .i64 ((rd_T87 ((rd_T85 l0_2 x4_1).f0) x5_2).f5), .string ((rd_T87 ((rd_T85 l0_2 x4_1).f0) x5_2).f6), .slice none 0 0]) ?_ 7 _ rfl; (with_reducible repeat (first | refine blk_drewN ?_ _ | refine blk_drew ?_ | refine blk_alloc ?_ _)); refine blk_put (cs := #[.int .i64 ((rd_T87 ((rd_T85 l0_2 x4_1).f0) x5_2).f0), .int .i64 ((rd_T87 ((rd_T85 l0_2 x4_1).f0) x5_2).f1), .int .i64 ((rd_T87 ((rd_T85 l0_2 x4_1).f0) x5_2).f2), .int .i64 ((rd_T87 ((rd_T85 l0_2 x4_1).f0) x5_2).f3), .int .i64 ((rd_T87 ((rd_T85 l0_2 x4_1).f0) x5_2).f4), .int .i64 ((rd_T87 ((rd_T85 l0_2 x4_1).f0) x5_2).f5), .string (⟨#[]⟩ : ByteArray), .slice none 0 0]) ?_ 6 _ rfl; (with_reducible repeat (first | refine blk_drewN ?_ _ | refine blk_drew ?_ | refine blk_alloc ?_ _)); refine blk_put (cs := #[.int .i64 ((rd_T87 ((rd_T85 l0_2 x4_1).f0) x5_2).f0), .int .i64 ((rd_T87 ((rd_T85 l0_2 x4_1).f0) x5_2).f1), .int .i64 ((rd_T87 ((rd_T85 l0_2 x4_1).f0) x5_2).f2), .int .i64 ((rd_T87 ((rd_T85 l0_2 x4_1).f0) x5_2).f3), .int .i64 ((rd_T87 ((rd_T85 l0_2 x4_1).f0) x5_2).f4), .int .i64 0, .string (⟨#[]⟩ : ByteArray), .slice none 0 0]) ?_ 5 _ rfl; (with_reducible repeat (first | refine blk_drewN ?_ _ | refine blk_drew ?_ | refine blk_alloc ?_ _)); refine blk_put (cs := #[.int .i64 ((rd_T87 ((rd_T85 l0_2 x4_1).f0) x5_2).f0), .int .i64 ((rd_T87 ((rd_T85 l0_2 x4_1).f0) x5_2).f1), .int .i64 ((rd_T87 ((rd_T85 l0_2 x4_1).f0) x5_2).f2), .int .i64 ((rd_T87 ((rd_T85 l0_2 x4_1).f0) x5_2).f3), .int .i64 0, .int .i64 0, .string (⟨#[]⟩ : ByteArray), .slice none 0 0]) ?_ 4 _ rfl; (with_reducible repeat (first | refine blk_drewN ?_ _ | refine blk_drew ?_ | refine blk_alloc ?_ _)); refine blk_put (cs := #[.int .i64 ((rd_T87 ((rd_T85 l0_2 x4_1).f0) x5_2).f0), .int .i64 ((rd_T87 ((rd_T85 l0_2 x4_1).f0) x5_2).f1), .int .i64 ((rd_T87 ((rd_T85 l0_2 x4_1).f0) x5_2).f2), .int .i64 0, .int .i64 0, .int .i64 0, .string (⟨#[]⟩ : ByteArray), .slice none 0 0]) ?_ 3 _ rfl; (with_reducible repeat (first | refine blk_drewN ?_ _ | refine blk_drew ?_ | refine blk_alloc ?_ _)); refine blk_put (cs := #[.int .i64 ((rd_T87 ((rd_T85 l0_2 x4_1).f0) x5_2).f0), .int .i64 ((rd_T87 ((rd_T85 l0_2 x4_1).f0) x5_2).f1), .int .i64 0, .int .i64 0, .int .i64 0, .int .i64 0, .string (⟨#[]⟩ : ByteArray), .slice none 0 0]) ?_ 2 _ rfl; (with_reducible repeat (first | refine blk_drewN ?_ _ | refine blk_drew ?_ | refine blk_alloc ?_ _)); refine blk_put (cs := #[.int .i64 ((rd_T87 ((rd_T85 l0_2 x4_1).f0) x5_2).f0), .int .i64 0, .int .i64 0, .int .i64 0, .int .i64 0, .int .i64 0, .string (⟨#[]⟩ : ByteArray), .slice none 0 0]) ?_ 1 _ rfl; (with_reducible repeat (first | refine blk_drewN ?_ _ | refine blk_drew ?_ | refine blk_alloc ?_ _)); refine blk_put (cs := #[.int .i64 0, .int .i64 0, .int .i64 0, .int .i64 0, .int .i64 0, .int .i64 0, .string (⟨#[]⟩ : ByteArray), .slice none 0 0]) ?_ 0 _ rfl; (with_reducible repeat (first | refine blk_drewN ?_ _ | refine blk_drew ?_ | refine blk_alloc ?_ _)); exact BK332.out⟩
                 have n2_ : Aside0 (Below w.heap.size w ((((((((w12.setCell ⟨gb332, 0, none⟩ (.int .i64 ((rd_T87 ((rd_T85 l0_2 x4_1).f0) x5_2).f0))).setCell ⟨gb332, 1, none⟩ (.int .i64 ((rd_T87 ((rd_T85 l0_2 x4_1).f0) x5_2).f1))).setCell ⟨gb332, 2, none⟩ (.int .i64 ((rd_T87 ((rd_T85 l0_2 x4_1).f0) x5_2).f2))).setCell ⟨gb332, 3, none⟩ (.int .i64 ((rd_T87 ((rd_T85 l0_2 x4_1).f0) x5_2).f3))).setCell ⟨gb332, 4, none⟩ (.int .i64 ((rd_T87 ((rd_T85 l0_2 x4_1).f0) x5_2).f4))).setCell ⟨gb332, 5, none⟩ (.int .i64 ((rd_T87 ((rd_T85 l0_2 x4_1).f0) x5_2).f5))).setCell ⟨gb332, 6, none⟩ (.string ((rd_T87 ((rd_T85 l0_2 x4_1).f0) x5_2).f6))).setCell ⟨gb332, 7, none⟩ (.slice A331_7 ((rd_T87 ((rd_T85 l0_2 x4_1).f0) x5_2).f7).length c331_7))) := ⟨ bz⟩
                 (try clear BK328)
                 (try clear BK332)
                 (try clear HB)
                 generalize ((((((((w12.setCell ⟨gb332, 0, none⟩ (.int .i64 ((rd_T87 ((rd_T85 l0_2 x4_1).f0) x5_2).f0))).setCell ⟨gb332, 1, none⟩ (.int .i64 ((rd_T87 ((rd_T85 l0_2 x4_1).f0) x5_2).f1))).setCell ⟨gb332, 2, none⟩ (.int .i64 ((rd_T87 ((rd_T85 l0_2 x4_1).f0) x5_2).f2))).setCell ⟨gb332, 3, none⟩ (.int .i64 ((rd_T87 ((rd_T85 l0_2 x4_1).f0) x5_2).f3))).setCell ⟨gb332, 4, none⟩ (.int .i64 ((rd_T87 ((rd_T85 l0_2 x4_1).f0) x5_2).f4))).setCell ⟨gb332, 5, none⟩ (.int .i64 ((rd_T87 ((rd_T85 l0_2 x4_1).f0) x5_2).f5))).setCell ⟨gb332, 6, none⟩ (.string ((rd_T87 ((rd_T85 l0_2 x4_1).f0) x5_2).f6))).setCell ⟨gb332, 7, none⟩ (.slice A331_7 ((rd_T87 ((rd_T85 l0_2 x4_1).f0) x5_2).f7).length c331_7)) = w15 at n0_ n1_ n2_ ⊢
                 have BK328 := n0_
                 have BK332 := n1_
                 have HB := n2_
                 clear n0_ n1_ n2_
                 have n0_ := Aside0.mk (blk_drew BK328.out)
                 have n1_ := Aside0.mk (blk_drew BK332.out)
                 have n2_ := Aside0.mk (below_drew1 HB.out)
                 clear BK328
                 clear BK332
                 clear HB
                 have BK328 := n0_
                 have BK332 := n1_
                 have HB := n2_
                 clear n0_ n1_ n2_
                 refine start_ (n := 7) (S := fun w' => w'.cell? ⟨gb332, 0, none⟩ = some (.int .i64 ((rd_T87 ((rd_T85 l0_2 x4_1).f0) x5_2).f0)) ∧ w'.cell? ⟨gb332, 1, none⟩ = some (.int .i64 ((rd_T87 ((rd_T85 l0_2 x4_1).f0) x5_2).f1)) ∧ w'.cell? ⟨gb332, 2, none⟩ = some (.int .i64 ((rd_T87 ((rd_T85 l0_2 x4_1).f0) x5_2).f2)) ∧ w'.cell? ⟨gb332, 3, none⟩ = some (.int .i64 ((rd_T87 ((rd_T85 l0_2 x4_1).f0) x5_2).f3)) ∧ w'.cell? ⟨gb332, 4, none⟩ = some (.int .i64 ((rd_T87 ((rd_T85 l0_2 x4_1).f0) x5_2).f4)) ∧ w'.cell? ⟨gb332, 5, none⟩ = some (.int .i64 ((rd_T87 ((rd_T85 l0_2 x4_1).f0) x5_2).f5)) ∧ w'.cell? ⟨gb332, 6, none⟩ = some (.string ((rd_T87 ((rd_T85 l0_2 x4_1).f0) x5_2).f6)) ∧ w'.cell? ⟨gb332, 7, none⟩ = some (.slice A331_7 ((rd_T87 ((rd_T85 l0_2 x4_1).f0) x5_2).f7).length c331_7)) (ds := []) #[false, false, false, false, false, false, false] (by kernel_rfl) rfl rfl ⟨(blk_cell BK332.out 0).trans rfl, (blk_cell BK332.out 1).trans rfl, (blk_cell BK332.out 2).trans rfl, (blk_cell BK332.out 3).trans rfl, (blk_cell BK332.out 4).trans rfl, (blk_cell BK332.out 5).trans rfl, (blk_cell BK332.out 6).trans rfl, (blk_cell BK332.out 7).trans rfl⟩ (fun hHeld => ?_)
                 generalize w15.drew = w16 at BK328 BK332 HB hHeld ⊢
                 refine pure_ (i := 2) (N := some 38) (v := ?_) (a' := ?_) #[false, false, true, false, false, false, false] rfl rfl (by kernel_rfl) (fun _ _ _ h => h) (Or.inl ⟨by rfl, ?_⟩) ?_ ?_
                 rotate_left
                 · intro w'
                   go_simp
                   with_reducible rfl
                 rotate_left
                 · simp only [Act.put, sx1, sx2, sx3, i64_w, i32_w]
                   rfl
                 refine take_ (i := 0) (N := some 36) (v := ?_) (a' := ?_) #[true, false, true, false, false, false, false] rfl rfl (by kernel_rfl) (fun _ _ _ h => h) (Or.inl ⟨by rfl, ?_⟩) hHeld ?_ ?_
                 rotate_left
                 · rintro w' ⟨s0, s1, s2, s3, s4, s5, s6, s7⟩
                   go_simp
                   with_reducible rfl
                 rotate_left
                 · simp only [Act.put, sx1, sx2, sx3, i64_w, i32_w]
                   rfl
                 refine take_ (i := 3) (N := some 39) (v := ?_) (a' := ?_) #[true, false, true, true, false, false, false] rfl rfl (by kernel_rfl) (fun _ _ _ h => h) (Or.inl ⟨by rfl, ?_⟩) hHeld ?_ ?_
                 rotate_left
                 · rintro w' ⟨s0, s1, s2, s3, s4, s5, s6, s7⟩
                   go_simp
                   with_reducible rfl
                 rotate_left
                 · simp only [Act.put, sx1, sx2, sx3, i64_w, i32_w]
                   rfl
                 refine join_ (σ := Value × Value) 2 #[true, true, true, true, true, false, false] (fun s_ => [(37, s_.1), (40, s_.2)]) (fun s_ w' => (w'.cell? ⟨gb332, 0, none⟩ = some (.int .i64 ((rd_T87 ((rd_T85 l0_2 x4_1).f0) x5_2).f0)) ∧ w'.cell? ⟨gb332, 1, none⟩ = some (.int .i64 ((rd_T87 ((rd_T85 l0_2 x4_1).f0) x5_2).f1)) ∧ w'.cell? ⟨gb332, 2, none⟩ = some (.int .i64 ((rd_T87 ((rd_T85 l0_2 x4_1).f0) x5_2).f2)) ∧ w'.cell? ⟨gb332, 3, none⟩ = some (.int .i64 ((rd_T87 ((rd_T85 l0_2 x4_1).f0) x5_2).f3)) ∧ w'.cell? ⟨gb332, 4, none⟩ = some (.int .i64 ((rd_T87 ((rd_T85 l0_2 x4_1).f0) x5_2).f4)) ∧ w'.cell? ⟨gb332, 5, none⟩ = some (.int .i64 ((rd_T87 ((rd_T85 l0_2 x4_1).f0) x5_2).f5)) ∧ w'.cell? ⟨gb332, 6, none⟩ = some (.string ((rd_T87 ((rd_T85 l0_2 x4_1).f0) x5_2).f6)) ∧ w'.cell? ⟨gb332, 7, none⟩ = some (.slice A331_7 ((rd_T87 ((rd_T85 l0_2 x4_1).f0) x5_2).f7).length c331_7)) ∧ (Kd.R (Kd.int .i64) 2 w' w.heap.size (fun k_ => some k_ ≠ (s_.2 : Value).ownBlock) s_.1 t333) ∧ (Kd.R (Kd.int .i64) 2 w' w.heap.size (fun k_ => some k_ ≠ (s_.1 : Value).ownBlock) s_.2 y336) ∧ (w'.heap[gb328]? = some (.cells #[.int .i64 a0_0, .slice A0_1 l0_1.length c0_1, .slice (some ad329) l0_2.length c0_2] 29 (0, 0))) ∧ (w'.heap[gb332]? = some (.cells #[.int .i64 ((rd_T87 ((rd_T85 l0_2 x4_1).f0) x5_2).f0), .int .i64 ((rd_T87 ((rd_T85 l0_2 x4_1).f0) x5_2).f1), .int .i64 ((rd_T87 ((rd_T85 l0_2 x4_1).f0) x5_2).f2), .int .i64 ((rd_T87 ((rd_T85 l0_2 x4_1).f0) x5_2).f3), .int .i64 ((rd_T87 ((rd_T85 l0_2 x4_1).f0) x5_2).f4), .int .i64 ((rd_T87 ((rd_T85 l0_2 x4_1).f0) x5_2).f5), .string ((rd_T87 ((rd_T85 l0_2 x4_1).f0) x5_2).f6), .slice A331_7 ((rd_T87 ((rd_T85 l0_2 x4_1).f0) x5_2).f7).length c331_7] 87 (0, 0))) ∧ (Below w.heap.size w w')) ?_ ?_
                 rotate_left
                 · intro hCont
                   refine two_ (i := 1) (j := 4) (Ni := some 37) (Nj := some 40) #[true, true, true, true, false, false, false] #[true, false, true, true, true, false, false] rfl rfl rfl rfl (by kernel_rfl) (by decide) (by decide) (fun K hK => ?_) (fun K hK => ?_)
                   · skip
                     refine goes_ Try.func116 (by kernel_rfl) rfl #[.agg #[.int .i64 ((rd_T87 ((rd_T85 l0_2 x4_1).f0) x5_2).f0), .int .i64 ((rd_T87 ((rd_T85 l0_2 x4_1).f0) x5_2).f1), .int .i64 ((rd_T87 ((rd_T85 l0_2 x4_1).f0) x5_2).f2), .int .i64 ((rd_T87 ((rd_T85 l0_2 x4_1).f0) x5_2).f3), .int .i64 ((rd_T87 ((rd_T85 l0_2 x4_1).f0) x5_2).f4), .int .i64 ((rd_T87 ((rd_T85 l0_2 x4_1).f0) x5_2).f5), .string ((rd_T87 ((rd_T85 l0_2 x4_1).f0) x5_2).f6), .slice A331_7 ((rd_T87 ((rd_T85 l0_2 x4_1).f0) x5_2).f7).length c331_7]] (by rfl) rfl rfl lz ?_
                     with_reducible refine (spec_Reads.calls k2 ((rd_T87 ((rd_T85 l0_2 x4_1).f0) x5_2).f0) ((rd_T87 ((rd_T85 l0_2 x4_1).f0) x5_2).f1) ((rd_T87 ((rd_T85 l0_2 x4_1).f0) x5_2).f2) ((rd_T87 ((rd_T85 l0_2 x4_1).f0) x5_2).f3) ((rd_T87 ((rd_T85 l0_2 x4_1).f0) x5_2).f4) ((rd_T87 ((rd_T85 l0_2 x4_1).f0) x5_2).f5) ((rd_T87 ((rd_T85 l0_2 x4_1).f0) x5_2).f6) _ _ ((rd_T87 ((rd_T85 l0_2 x4_1).f0) x5_2).f7) t333 _ ?side1 ?side2 A9.out).mono ?_
                     (case side1 => exact cz HR331_7.out)
                     (case side2 => exact HC331_7.out)
                     rintro e w17 ⟨v334, rfl, ho0, hb⟩
                     refine ⟨_, rfl, ?_⟩
                     have n0_ := Aside0.mk (Kd.R_lower ho0 (below_size bz))
                     have n1_ := Aside0.mk (blk_below (g := gb328) (o := .cells #[.int .i64 a0_0, .slice A0_1 l0_1.length c0_1, .slice (some ad329) l0_2.length c0_2] 29 (0, 0)) kz hb)
                     have n2_ := Aside0.mk (blk_below (g := gb332) (o := .cells #[.int .i64 ((rd_T87 ((rd_T85 l0_2 x4_1).f0) x5_2).f0), .int .i64 ((rd_T87 ((rd_T85 l0_2 x4_1).f0) x5_2).f1), .int .i64 ((rd_T87 ((rd_T85 l0_2 x4_1).f0) x5_2).f2), .int .i64 ((rd_T87 ((rd_T85 l0_2 x4_1).f0) x5_2).f3), .int .i64 ((rd_T87 ((rd_T85 l0_2 x4_1).f0) x5_2).f4), .int .i64 ((rd_T87 ((rd_T85 l0_2 x4_1).f0) x5_2).f5), .string ((rd_T87 ((rd_T85 l0_2 x4_1).f0) x5_2).f6), .slice A331_7 ((rd_T87 ((rd_T85 l0_2 x4_1).f0) x5_2).f7).length c331_7] 87 (0, 0)) kz hb)
                     have n3_ := Aside0.mk (below_step bz hb)
                     clear BK328
                     clear BK332
                     clear HB
                     have HO335 := n0_
                     have BK328 := n1_
                     have BK332 := n2_
                     have HB := n3_
                     clear n0_ n1_ n2_ n3_
                     (try clear hb)
                     (try clear hb2)
                     (try clear hk)
                     (try clear hi)
                     (try clear ho0)
                     refine hK.out _ _ ⟨(blk_cell BK332.out 0).trans rfl, (blk_cell BK332.out 1).trans rfl, (blk_cell BK332.out 2).trans rfl, (blk_cell BK332.out 3).trans rfl, (blk_cell BK332.out 4).trans rfl, (blk_cell BK332.out 5).trans rfl, (blk_cell BK332.out 6).trans rfl, (blk_cell BK332.out 7).trans rfl⟩ (fun hHeld => ?_)
                     clear hK K
                     refine norm_ (a' := ?_) ?_ ?_
                     rotate_left
                     · show Act.put _ (some 37) _ = _
                       simp only [Act.put, sx1, sx2, sx3, i64_w, i32_w]
                       rfl
                     refine one_ (i := 4) (N := some 40) #[true, true, true, true, true, false, false] rfl rfl (by kernel_rfl) (by decide) (fun K hK => ?_)
                     refine Kd.R_lit_step (Kd.int .i64) _ 2 ?hg (N := 40) ?hd (xs := ([(rd_T87 ((rd_T85 l0_2 x4_1).f0) x5_2).f1] : List Int)) (inner := [.int .i64 ((rd_T87 ((rd_T85 l0_2 x4_1).f0) x5_2).f1)]) (ok := fun _ => True) (okp := fun _ => True) ?hr ?hp (fun _ hk => hk) trivial (Below.refl _ _) (Nat.le_refl _) (by simp) ?_; (case hd => rfl); (case hg => rfl); (case hr => first | (go_simp; done) | (go_simp; rfl)); (case hp => exact (Reps.one (show Kd.M (Kd.int .i64) _ _ _ ((rd_T87 ((rd_T85 l0_2 x4_1).f0) x5_2).f1) [.int .i64 ((rd_T87 ((rd_T85 l0_2 x4_1).f0) x5_2).f1)] from rfl) (Reps.none _ _)))
                     intro v337 w18 ho19 hb hg_ hnew_
                     clear hg_ hnew_
                     (first | rw [← Ny336.out] at ho19 | (simp only [Int.reduceToNat] at ho19; rw [← Ny336.out] at ho19))
                     have n0_ := Aside0.mk (Kd.R_elder' (rz HO335.out) (Kd.R_base ho19) hb)
                     have n1_ := Aside0.mk (Kd.R_lower (Kd.R_new' ho19 (Kd.R_lt (rz HO335.out))) (below_size bz))
                     have n2_ := Aside0.mk (blk_below (g := gb328) (o := .cells #[.int .i64 a0_0, .slice A0_1 l0_1.length c0_1, .slice (some ad329) l0_2.length c0_2] 29 (0, 0)) kz hb)
                     have n3_ := Aside0.mk (blk_below (g := gb332) (o := .cells #[.int .i64 ((rd_T87 ((rd_T85 l0_2 x4_1).f0) x5_2).f0), .int .i64 ((rd_T87 ((rd_T85 l0_2 x4_1).f0) x5_2).f1), .int .i64 ((rd_T87 ((rd_T85 l0_2 x4_1).f0) x5_2).f2), .int .i64 ((rd_T87 ((rd_T85 l0_2 x4_1).f0) x5_2).f3), .int .i64 ((rd_T87 ((rd_T85 l0_2 x4_1).f0) x5_2).f4), .int .i64 ((rd_T87 ((rd_T85 l0_2 x4_1).f0) x5_2).f5), .string ((rd_T87 ((rd_T85 l0_2 x4_1).f0) x5_2).f6), .slice A331_7 ((rd_T87 ((rd_T85 l0_2 x4_1).f0) x5_2).f7).length c331_7] 87 (0, 0)) kz hb)
                     have n4_ := Aside0.mk (below_step bz hb)
                     clear HO335
                     clear BK328
                     clear BK332
                     clear HB
                     have HO335 := n0_
                     have HO338 := n1_
                     have BK328 := n2_
                     have BK332 := n3_
                     have HB := n4_
                     clear n0_ n1_ n2_ n3_ n4_
                     clear hb ho19
                     refine hK.out _ _ ⟨(blk_cell BK332.out 0).trans rfl, (blk_cell BK332.out 1).trans rfl, (blk_cell BK332.out 2).trans rfl, (blk_cell BK332.out 3).trans rfl, (blk_cell BK332.out 4).trans rfl, (blk_cell BK332.out 5).trans rfl, (blk_cell BK332.out 6).trans rfl, (blk_cell BK332.out 7).trans rfl⟩ (fun hHeld => ?_)
                     clear hK K
                     refine norm_ (a' := ?_) ?_ ?_
                     rotate_left
                     · show Act.put _ (some 40) _ = _
                       simp only [Act.put, sx1, sx2, sx3, i64_w, i32_w]
                       rfl
                     exact norm_ (by simp only [putAll, Act.put, sx1, sx2, sx3]) (hCont (v334, v337) _ ⟨hHeld, (by (with_reducible repeat (first | apply Kd.R_alloc | apply Kd.R_drewN | apply Kd.R_drew)); exact Kd.R_mono HO335.out (fun _ hk => hk.2)), (by (with_reducible repeat (first | apply Kd.R_alloc | apply Kd.R_drewN | apply Kd.R_drew)); exact Kd.R_mono HO338.out (fun _ hk => hk.2)), kz, kz, bz⟩)
                   · skip
                     refine Kd.R_lit_step (Kd.int .i64) _ 2 ?hg (N := 40) ?hd (xs := ([(rd_T87 ((rd_T85 l0_2 x4_1).f0) x5_2).f1] : List Int)) (inner := [.int .i64 ((rd_T87 ((rd_T85 l0_2 x4_1).f0) x5_2).f1)]) (ok := fun _ => True) (okp := fun _ => True) ?hr ?hp (fun _ hk => hk) trivial (Below.refl _ _) (Nat.le_refl _) (by simp) ?_; (case hd => rfl); (case hg => rfl); (case hr => first | (go_simp; done) | (go_simp; rfl)); (case hp => exact (Reps.one (show Kd.M (Kd.int .i64) _ _ _ ((rd_T87 ((rd_T85 l0_2 x4_1).f0) x5_2).f1) [.int .i64 ((rd_T87 ((rd_T85 l0_2 x4_1).f0) x5_2).f1)] from rfl) (Reps.none _ _)))
                     intro v337 w17 ho18 hb hg_ hnew_
                     clear hg_ hnew_
                     (first | rw [← Ny336.out] at ho18 | (simp only [Int.reduceToNat] at ho18; rw [← Ny336.out] at ho18))
                     have n0_ := Aside0.mk (Kd.R_lower ho18 (below_size bz))
                     have n1_ := Aside0.mk (blk_below (g := gb328) (o := .cells #[.int .i64 a0_0, .slice A0_1 l0_1.length c0_1, .slice (some ad329) l0_2.length c0_2] 29 (0, 0)) kz hb)
                     have n2_ := Aside0.mk (blk_below (g := gb332) (o := .cells #[.int .i64 ((rd_T87 ((rd_T85 l0_2 x4_1).f0) x5_2).f0), .int .i64 ((rd_T87 ((rd_T85 l0_2 x4_1).f0) x5_2).f1), .int .i64 ((rd_T87 ((rd_T85 l0_2 x4_1).f0) x5_2).f2), .int .i64 ((rd_T87 ((rd_T85 l0_2 x4_1).f0) x5_2).f3), .int .i64 ((rd_T87 ((rd_T85 l0_2 x4_1).f0) x5_2).f4), .int .i64 ((rd_T87 ((rd_T85 l0_2 x4_1).f0) x5_2).f5), .string ((rd_T87 ((rd_T85 l0_2 x4_1).f0) x5_2).f6), .slice A331_7 ((rd_T87 ((rd_T85 l0_2 x4_1).f0) x5_2).f7).length c331_7] 87 (0, 0)) kz hb)
                     have n3_ := Aside0.mk (below_step bz hb)
                     clear BK328
                     clear BK332
                     clear HB
                     have HO338 := n0_
                     have BK328 := n1_
                     have BK332 := n2_
                     have HB := n3_
                     clear n0_ n1_ n2_ n3_
                     clear hb ho18
                     refine hK.out _ _ ⟨(blk_cell BK332.out 0).trans rfl, (blk_cell BK332.out 1).trans rfl, (blk_cell BK332.out 2).trans rfl, (blk_cell BK332.out 3).trans rfl, (blk_cell BK332.out 4).trans rfl, (blk_cell BK332.out 5).trans rfl, (blk_cell BK332.out 6).trans rfl, (blk_cell BK332.out 7).trans rfl⟩ (fun hHeld => ?_)
                     clear hK K
                     refine norm_ (a' := ?_) ?_ ?_
                     rotate_left
                     · show Act.put _ (some 40) _ = _
                       simp only [Act.put, sx1, sx2, sx3, i64_w, i32_w]
                       rfl
                     refine one_ (i := 1) (N := some 37) #[true, true, true, true, true, false, false] rfl rfl (by kernel_rfl) (by decide) (fun K hK => ?_)
                     refine goes_ Try.func116 (by kernel_rfl) rfl #[.agg #[.int .i64 ((rd_T87 ((rd_T85 l0_2 x4_1).f0) x5_2).f0), .int .i64 ((rd_T87 ((rd_T85 l0_2 x4_1).f0) x5_2).f1), .int .i64 ((rd_T87 ((rd_T85 l0_2 x4_1).f0) x5_2).f2), .int .i64 ((rd_T87 ((rd_T85 l0_2 x4_1).f0) x5_2).f3), .int .i64 ((rd_T87 ((rd_T85 l0_2 x4_1).f0) x5_2).f4), .int .i64 ((rd_T87 ((rd_T85 l0_2 x4_1).f0) x5_2).f5), .string ((rd_T87 ((rd_T85 l0_2 x4_1).f0) x5_2).f6), .slice A331_7 ((rd_T87 ((rd_T85 l0_2 x4_1).f0) x5_2).f7).length c331_7]] (by rfl) rfl rfl lz ?_
                     with_reducible refine (spec_Reads.calls k2 ((rd_T87 ((rd_T85 l0_2 x4_1).f0) x5_2).f0) ((rd_T87 ((rd_T85 l0_2 x4_1).f0) x5_2).f1) ((rd_T87 ((rd_T85 l0_2 x4_1).f0) x5_2).f2) ((rd_T87 ((rd_T85 l0_2 x4_1).f0) x5_2).f3) ((rd_T87 ((rd_T85 l0_2 x4_1).f0) x5_2).f4) ((rd_T87 ((rd_T85 l0_2 x4_1).f0) x5_2).f5) ((rd_T87 ((rd_T85 l0_2 x4_1).f0) x5_2).f6) _ _ ((rd_T87 ((rd_T85 l0_2 x4_1).f0) x5_2).f7) t333 _ ?side1 ?side2 A9.out).mono ?_
                     (case side1 => exact cz HR331_7.out)
                     (case side2 => exact HC331_7.out)
                     rintro e w19 ⟨v334, rfl, ho0, hb⟩
                     refine ⟨_, rfl, ?_⟩
                     have n0_ := Aside0.mk (Kd.R_elder' (rz HO338.out) (Kd.R_base ho0) hb)
                     have n1_ := Aside0.mk (Kd.R_lower (Kd.R_new' ho0 (Kd.R_lt (rz HO338.out))) (below_size bz))
                     have n2_ := Aside0.mk (blk_below (g := gb328) (o := .cells #[.int .i64 a0_0, .slice A0_1 l0_1.length c0_1, .slice (some ad329) l0_2.length c0_2] 29 (0, 0)) kz hb)
                     have n3_ := Aside0.mk (blk_below (g := gb332) (o := .cells #[.int .i64 ((rd_T87 ((rd_T85 l0_2 x4_1).f0) x5_2).f0), .int .i64 ((rd_T87 ((rd_T85 l0_2 x4_1).f0) x5_2).f1), .int .i64 ((rd_T87 ((rd_T85 l0_2 x4_1).f0) x5_2).f2), .int .i64 ((rd_T87 ((rd_T85 l0_2 x4_1).f0) x5_2).f3), .int .i64 ((rd_T87 ((rd_T85 l0_2 x4_1).f0) x5_2).f4), .int .i64 ((rd_T87 ((rd_T85 l0_2 x4_1).f0) x5_2).f5), .string ((rd_T87 ((rd_T85 l0_2 x4_1).f0) x5_2).f6), .slice A331_7 ((rd_T87 ((rd_T85 l0_2 x4_1).f0) x5_2).f7).length c331_7] 87 (0, 0)) kz hb)
                     have n4_ := Aside0.mk (below_step bz hb)
                     clear HO338
                     clear BK328
                     clear BK332
                     clear HB
                     have HO338 := n0_
                     have HO335 := n1_
                     have BK328 := n2_
                     have BK332 := n3_
                     have HB := n4_
                     clear n0_ n1_ n2_ n3_ n4_
                     (try clear hb)
                     (try clear hb2)
                     (try clear hk)
                     (try clear hi)
                     (try clear ho0)
                     refine hK.out _ _ ⟨(blk_cell BK332.out 0).trans rfl, (blk_cell BK332.out 1).trans rfl, (blk_cell BK332.out 2).trans rfl, (blk_cell BK332.out 3).trans rfl, (blk_cell BK332.out 4).trans rfl, (blk_cell BK332.out 5).trans rfl, (blk_cell BK332.out 6).trans rfl, (blk_cell BK332.out 7).trans rfl⟩ (fun hHeld => ?_)
                     clear hK K
                     refine norm_ (a' := ?_) ?_ ?_
                     rotate_left
                     · show Act.put _ (some 37) _ = _
                       simp only [Act.put, sx1, sx2, sx3, i64_w, i32_w]
                       rfl
                     exact norm_ (by simp only [putAll, Act.put, sx1, sx2, sx3]) (hCont (v334, v337) _ ⟨hHeld, (by (with_reducible repeat (first | apply Kd.R_alloc | apply Kd.R_drewN | apply Kd.R_drew)); exact Kd.R_mono HO335.out (fun _ hk => hk.2)), (by (with_reducible repeat (first | apply Kd.R_alloc | apply Kd.R_drewN | apply Kd.R_drew)); exact Kd.R_mono HO338.out (fun _ hk => hk.2)), kz, kz, bz⟩)
                 rintro ⟨v334, v337⟩ w20 ⟨hS_, h0_, h1_, h2_, h3_, h4_⟩
                 have n0_ : Aside0 (Kd.R (Kd.int .i64) 2 w20 w.heap.size (fun k_ => some k_ ≠ (v337 : Value).ownBlock) v334 t333) := ⟨h0_⟩
                 have n1_ : Aside0 (Kd.R (Kd.int .i64) 2 w20 w.heap.size (fun k_ => some k_ ≠ (v334 : Value).ownBlock) v337 y336) := ⟨h1_⟩
                 have n2_ : Aside0 (w20.heap[gb328]? = some (.cells #[.int .i64 a0_0, .slice A0_1 l0_1.length c0_1, .slice (some ad329) l0_2.length c0_2] 29 (0, 0))) := ⟨h2_⟩
                 have n3_ : Aside0 (w20.heap[gb332]? = some (.cells #[.int .i64 ((rd_T87 ((rd_T85 l0_2 x4_1).f0) x5_2).f0), .int .i64 ((rd_T87 ((rd_T85 l0_2 x4_1).f0) x5_2).f1), .int .i64 ((rd_T87 ((rd_T85 l0_2 x4_1).f0) x5_2).f2), .int .i64 ((rd_T87 ((rd_T85 l0_2 x4_1).f0) x5_2).f3), .int .i64 ((rd_T87 ((rd_T85 l0_2 x4_1).f0) x5_2).f4), .int .i64 ((rd_T87 ((rd_T85 l0_2 x4_1).f0) x5_2).f5), .string ((rd_T87 ((rd_T85 l0_2 x4_1).f0) x5_2).f6), .slice A331_7 ((rd_T87 ((rd_T85 l0_2 x4_1).f0) x5_2).f7).length c331_7] 87 (0, 0))) := ⟨h3_⟩
                 have n4_ : Aside0 (Below w.heap.size w w20) := ⟨h4_⟩
                 clear BK328
                 clear BK332
                 clear HB
                 clear h0_ h1_ h2_ h3_ h4_
                 have HO335 := n0_
                 have HO338 := n1_
                 have BK328 := n2_
                 have BK332 := n3_
                 have HB := n4_
                 clear n0_ n1_ n2_ n3_ n4_
                 have hHeld : w20.cell? ⟨gb332, 0, none⟩ = some (.int .i64 ((rd_T87 ((rd_T85 l0_2 x4_1).f0) x5_2).f0)) ∧ w20.cell? ⟨gb332, 1, none⟩ = some (.int .i64 ((rd_T87 ((rd_T85 l0_2 x4_1).f0) x5_2).f1)) ∧ w20.cell? ⟨gb332, 2, none⟩ = some (.int .i64 ((rd_T87 ((rd_T85 l0_2 x4_1).f0) x5_2).f2)) ∧ w20.cell? ⟨gb332, 3, none⟩ = some (.int .i64 ((rd_T87 ((rd_T85 l0_2 x4_1).f0) x5_2).f3)) ∧ w20.cell? ⟨gb332, 4, none⟩ = some (.int .i64 ((rd_T87 ((rd_T85 l0_2 x4_1).f0) x5_2).f4)) ∧ w20.cell? ⟨gb332, 5, none⟩ = some (.int .i64 ((rd_T87 ((rd_T85 l0_2 x4_1).f0) x5_2).f5)) ∧ w20.cell? ⟨gb332, 6, none⟩ = some (.string ((rd_T87 ((rd_T85 l0_2 x4_1).f0) x5_2).f6)) ∧ w20.cell? ⟨gb332, 7, none⟩ = some (.slice A331_7 ((rd_T87 ((rd_T85 l0_2 x4_1).f0) x5_2).f7).length c331_7) := hS_
                 obtain ⟨Ao22, co22, eo22⟩ := Kd.R_slice HO338.out
                 (first | subst eo22 | (injection eo22 with f1_ f2_ f3_; have f4_ := f1_.symm; have f5_ := f3_.symm; clear f1_ f2_ f3_; subst f4_; subst f5_))
                 refine norm_ (a' := ?_) ?_ ?_
                 rotate_left
                 · simp only [putAll, Act.put, sx1, sx2, sx3]
                   rfl
                 refine one_ (i := 5) (N := some 41) #[true, true, true, true, true, true, false] rfl rfl (by kernel_rfl) (by decide) (fun K hK => ?_)
                 refine Kd.R_append_rows_step (Kd.int .i64) (w0 := w) w.heap.size (by rfl) (.tmp 37) (.tmp 40) 22 2 (.int .i64 0) 8 rfl Try.underlying22 info2 rfl (by decide) (by omega) v334 t333 y336 _ _ _ (fun k_ => some k_ ≠ (.slice Ao22 y336.length co22 : Value).ownBlock) (fun _ => False) rfl rfl ?aO ?aR (fun _ _ h => h) (fun _ h => h.elim) ?aF ?aB ?aS ?aL ?_
                 (case aR => repeat (first | exact (Kd.R_reads' HO338.out).2.2 | (with_reducible refine Kd.C_alloc ?_ _) | (with_reducible refine Kd.C_drewN ?_ _) | (with_reducible refine Kd.C_drew ?_)))
                 (case aB => exact bz)
                 (case aF => exact (fun k_ hk => Kd.fresh' (Kd.R_lt (rz HO338.out)) k_ hk))
                 (case aO => exact (rz HO335.out))
                 (case aS => exact (below_size bz))
                 (case aL => have := LMc10.out; omega)
                 intro v340 w21 ho hb hg hat
                 rw [← Ny339.out] at ho
                 have n0_ := Aside0.mk (blk_grown (g := gb328) (o := .cells #[.int .i64 a0_0, .slice A0_1 l0_1.length c0_1, .slice (some ad329) l0_2.length c0_2] 29 (0, 0)) kz hg (Kd.R_ne HO335.out BK328.out (by decide)))
                 have n1_ := Aside0.mk (blk_grown (g := gb332) (o := .cells #[.int .i64 ((rd_T87 ((rd_T85 l0_2 x4_1).f0) x5_2).f0), .int .i64 ((rd_T87 ((rd_T85 l0_2 x4_1).f0) x5_2).f1), .int .i64 ((rd_T87 ((rd_T85 l0_2 x4_1).f0) x5_2).f2), .int .i64 ((rd_T87 ((rd_T85 l0_2 x4_1).f0) x5_2).f3), .int .i64 ((rd_T87 ((rd_T85 l0_2 x4_1).f0) x5_2).f4), .int .i64 ((rd_T87 ((rd_T85 l0_2 x4_1).f0) x5_2).f5), .string ((rd_T87 ((rd_T85 l0_2 x4_1).f0) x5_2).f6), .slice A331_7 ((rd_T87 ((rd_T85 l0_2 x4_1).f0) x5_2).f7).length c331_7] 87 (0, 0)) kz hg (Kd.R_ne HO335.out BK332.out (by decide)))
                 have n2_ := Aside0.mk (Kd.R_after (ok := (fun _ => True)) (by (with_reducible repeat (first | apply Kd.R_alloc | apply Kd.R_drewN | apply Kd.R_drew)); exact Kd.R_mono HO338.out (fun _ hk => ⟨trivial, hk⟩)) hg hat)
                 have n3_ := Aside0.mk (hb)
                 have n4_ := Aside0.mk (ho)
                 clear BK328
                 clear BK332
                 clear HO338
                 clear HB
                 clear HO335
                 have BK328 := n0_
                 have BK332 := n1_
                 have HO338 := n2_
                 have HB := n3_
                 have HO341 := n4_
                 clear n0_ n1_ n2_ n3_ n4_
                 clear ho hb hg hat
                 refine hK.out _ _ ⟨(blk_cell BK332.out 0).trans rfl, (blk_cell BK332.out 1).trans rfl, (blk_cell BK332.out 2).trans rfl, (blk_cell BK332.out 3).trans rfl, (blk_cell BK332.out 4).trans rfl, (blk_cell BK332.out 5).trans rfl, (blk_cell BK332.out 6).trans rfl, (blk_cell BK332.out 7).trans rfl⟩ (fun hHeld => ?_)
                 clear hK K
                 refine norm_ (a' := ?_) ?_ ?_
                 rotate_left
                 · show Act.put _ (some 41) _ = _
                   simp only [Act.put, sx1, sx2, sx3, i64_w, i32_w]
                   rfl
                 refine pure_ (i := 6) (N := some 7) (v := ?_) (a' := ?_) #[true, true, true, true, true, true, true] rfl rfl (by kernel_rfl) (fun _ _ _ h => h) (Or.inl ⟨by rfl, ?_⟩) ?_ ?_
                 rotate_left
                 · intro w'
                   go_simp
                   with_reducible rfl
                 rotate_left
                 · simp only [Act.put, sx1, sx2, sx3, i64_w, i32_w]
                   rfl
                 refine done_ (by kernel_rfl) ?_
                 try go_wp2
                 go_loopg [3, 8] k2 (fun kq v3 v8 w' => ∃ (x3_3 : Int) (x8_3 : Int), v3 = .int .i64 x3_3 ∧ v8 = .int .i64 x8_3 ∧ Aside0 (spec_l18Most.l2 kq x3_3 x4_1 x5_2 y339 x8_3 a0_0 l0_1 l0_2 = some r) ∧ Aside0 (kq ≤ k2) ∧ Aside0 (Kd.R (Kd.int .i64) 2 w' w.heap.size (fun _ => True) v340 y339) ∧ Aside0 (w'.heap[gb328]? = some (.cells #[.int .i64 a0_0, (.slice A0_1 l0_1.length c0_1), (.slice (some ad329) l0_2.length c0_2)] 29 (0, 0))) ∧ Aside0 (w'.heap[gb332]? = some (.cells #[.int .i64 ((rd_T87 ((rd_T85 l0_2 x4_1).f0) x5_2).f0), .int .i64 ((rd_T87 ((rd_T85 l0_2 x4_1).f0) x5_2).f1), .int .i64 ((rd_T87 ((rd_T85 l0_2 x4_1).f0) x5_2).f2), .int .i64 ((rd_T87 ((rd_T85 l0_2 x4_1).f0) x5_2).f3), .int .i64 ((rd_T87 ((rd_T85 l0_2 x4_1).f0) x5_2).f4), .int .i64 ((rd_T87 ((rd_T85 l0_2 x4_1).f0) x5_2).f5), .string ((rd_T87 ((rd_T85 l0_2 x4_1).f0) x5_2).f6), (.slice A331_7 ((rd_T87 ((rd_T85 l0_2 x4_1).f0) x5_2).f7).length c331_7)] 87 (0, 0))) ∧ Aside0 (Below w.heap.size w w'))
                 case atStart => exact ⟨(x3_2), (0), sz_, sz_, H', ⟨Nat.le_refl _⟩, ⟨by (with_reducible repeat (first | apply Kd.R_alloc | apply Kd.R_drewN | apply Kd.R_drew)); exact Kd.R_mono HO341.out (fun _ hk => trivial)⟩, ⟨ kz⟩, ⟨ kz⟩, ⟨ bz⟩⟩
                 case round =>
                  clear H'
                  obtain ⟨x3_3, x8_3, rfl, rfl, HA, HK3, HO_7, BK328, BK332, HB⟩ := hrel
                  cases gk with
                  | zero => exact absurd HA.out (by simp [spec_l18Most.l2])
                  | succ k3 =>
                   have H := HA.out
                   clear HA
                   simp only [spec_l18Most.l2] at H
                   by_cases c23 : x8_3 < (y339.length : Int)
                   · rw [if_pos c23] at H
                     have c23b0 : decide (x8_3 < (y339.length : Int)) = true := decide_eq_true c23
                     clear c23
                     by_cases c24 : 0 ≤ x8_3
                     · rw [if_pos c24] at H
                       have c24b0 : decide (0 ≤ x8_3) = true := decide_eq_true c24
                       clear c24
                       by_cases c25 : (rd y339 x8_3) ≥ x3_3
                       · rw [if_pos c25] at H
                         have c25b0 : decide (x3_3 ≤ (rd y339 x8_3)) = true := decide_eq_true c25
                         clear c25
                         by_cases c26 : (rd y339 x8_3) < 1048576
                         · rw [if_pos c26] at H
                           have c26b0 : decide ((rd y339 x8_3) < 1048576) = true := decide_eq_true c26
                           clear c26
                           have H' := Aside0.mk H
                           clear H
                           obtain ⟨Ao27, co27, eo27⟩ := Kd.R_slice HO_7.out
                           subst eo27
                           have p342 : 0 ≤ (x8_3 : Int) := of_decide_eq_true az
                           have q342 : x8_3 < (y339.length : Int) := of_decide_eq_true az
                           obtain ⟨ad342, e342, hx342_0⟩ := Kd.at_int (Kd.R_reads' HO_7.out).2.2 x8_3 p342 q342
                           cases e342
                           replace p342 := eq_true p342
                           replace q342 := eq_true q342
                           have p343 : 0 ≤ (x8_3 : Int) := of_decide_eq_true az
                           have q343 : x8_3 < (y339.length : Int) := of_decide_eq_true az
                           obtain ⟨ad343, e343, hx343_0⟩ := Kd.at_int (Kd.R_reads' HO_7.out).2.2 x8_3 p343 q343
                           obtain rfl : ad342 = ad343 := (by injection e343)
                           replace p343 := eq_true p343
                           replace q343 := eq_true q343
                           have p344 : 0 ≤ (x8_3 : Int) := of_decide_eq_true az
                           have q344 : x8_3 < (y339.length : Int) := of_decide_eq_true az
                           obtain ⟨ad344, e344, hx344_0⟩ := Kd.at_int (Kd.R_reads' HO_7.out).2.2 x8_3 p344 q344
                           obtain rfl : ad342 = ad344 := (by injection e344)
                           replace p344 := eq_true p344
                           replace q344 := eq_true q344
                           go_wp2
                           go_roundg k3
                           case measure => have := HK1.out; have := HK2.out; have := HK3.out; omega
                           case rel => exact ⟨(wrap64 ((rd y339 x8_3) + 1)), (wrap64 (x8_3 + 1)), sz_, sz_, H', ⟨by have := HK1.out; have := HK2.out; have := HK3.out; omega⟩, ⟨by (with_reducible repeat (first | apply Kd.R_alloc | apply Kd.R_drewN | apply Kd.R_drew)); exact HO_7.out⟩, ⟨ kz⟩, ⟨ kz⟩, ⟨ bz⟩⟩
                         · rw [if_neg c26] at H
                           have c26b0 : decide ((rd y339 x8_3) < 1048576) = false := decide_eq_false c26
                           clear c26
                           have H' := Aside0.mk H
                           clear H
                           obtain ⟨Ao28, co28, eo28⟩ := Kd.R_slice HO_7.out
                           subst eo28
                           have p342 : 0 ≤ (x8_3 : Int) := of_decide_eq_true az
                           have q342 : x8_3 < (y339.length : Int) := of_decide_eq_true az
                           obtain ⟨ad342, e342, hx342_0⟩ := Kd.at_int (Kd.R_reads' HO_7.out).2.2 x8_3 p342 q342
                           cases e342
                           replace p342 := eq_true p342
                           replace q342 := eq_true q342
                           have p343 : 0 ≤ (x8_3 : Int) := of_decide_eq_true az
                           have q343 : x8_3 < (y339.length : Int) := of_decide_eq_true az
                           obtain ⟨ad343, e343, hx343_0⟩ := Kd.at_int (Kd.R_reads' HO_7.out).2.2 x8_3 p343 q343
                           obtain rfl : ad342 = ad343 := (by injection e343)
                           replace p343 := eq_true p343
                           replace q343 := eq_true q343
                           go_wp2
                           go_roundg k3
                           case measure => have := HK1.out; have := HK2.out; have := HK3.out; omega
                           case rel => exact ⟨(x3_3), (wrap64 (x8_3 + 1)), sz_, sz_, H', ⟨by have := HK1.out; have := HK2.out; have := HK3.out; omega⟩, ⟨by (with_reducible repeat (first | apply Kd.R_alloc | apply Kd.R_drewN | apply Kd.R_drew)); exact HO_7.out⟩, ⟨ kz⟩, ⟨ kz⟩, ⟨ bz⟩⟩
                       · rw [if_neg c25] at H
                         have c25b0 : decide (x3_3 ≤ (rd y339 x8_3)) = false := decide_eq_false c25
                         clear c25
                         have H' := Aside0.mk H
                         clear H
                         obtain ⟨Ao29, co29, eo29⟩ := Kd.R_slice HO_7.out
                         subst eo29
                         have p342 : 0 ≤ (x8_3 : Int) := of_decide_eq_true az
                         have q342 : x8_3 < (y339.length : Int) := of_decide_eq_true az
                         obtain ⟨ad342, e342, hx342_0⟩ := Kd.at_int (Kd.R_reads' HO_7.out).2.2 x8_3 p342 q342
                         cases e342
                         replace p342 := eq_true p342
                         replace q342 := eq_true q342
                         go_wp2
                         go_roundg k3
                         case measure => have := HK1.out; have := HK2.out; have := HK3.out; omega
                         case rel => exact ⟨(x3_3), (wrap64 (x8_3 + 1)), sz_, sz_, H', ⟨by have := HK1.out; have := HK2.out; have := HK3.out; omega⟩, ⟨by (with_reducible repeat (first | apply Kd.R_alloc | apply Kd.R_drewN | apply Kd.R_drew)); exact HO_7.out⟩, ⟨ kz⟩, ⟨ kz⟩, ⟨ bz⟩⟩
                     · rw [if_neg c24] at H
                       exact absurd H (by simp)
                   · rw [if_neg c23] at H
                     have c23b0 : decide (x8_3 < (y339.length : Int)) = false := decide_eq_false c23
                     clear c23
                     have H' := Aside0.mk H
                     clear H
                     obtain ⟨Ao30, co30, eo30⟩ := Kd.R_slice HO_7.out
                     subst eo30
                     go_wp2
                     go_roundg k3
                     case measure => have := HK1.out; have := HK2.out; have := HK3.out; omega
                     case rel => exact ⟨(x3_3), (wrap64 (x5_2 + 1)), sz_, sz_, H', ⟨by have := HK1.out; have := HK2.out; have := HK3.out; omega⟩, ⟨ kz⟩, ⟨ bz⟩⟩
               · rw [if_neg c10] at H
                 exact absurd H (by simp)
             · rw [if_neg c8] at H
               exact absurd H (by simp)
           · rw [if_neg c7] at H
             have c7b0 : decide (x5_2 < (((rd_T85 l0_2 x4_1).f0).length : Int)) = false := decide_eq_false c7
             clear c7
             have H' := Aside0.mk H
             clear H
             have hcz31_0 : wr.cell? ⟨gb328, 0, none⟩ = some (.int .i64 a0_0) := (blk_cell BK328.out 0).trans rfl
             have hcz31_1 : wr.cell? ⟨gb328, 1, none⟩ = some (.slice A0_1 l0_1.length c0_1) := (blk_cell BK328.out 1).trans rfl
             have hcz31_2 : wr.cell? ⟨gb328, 2, none⟩ = some (.slice A0_2 l0_2.length c0_2) := (blk_cell BK328.out 2).trans rfl
             have p329 : 0 ≤ (x4_1 : Int) := of_decide_eq_true az
             have q329 : x4_1 < (l0_2.length : Int) := of_decide_eq_true az
             obtain ⟨ad329, A329_0, c329_0, e329, hx329_0, hl329_0, hi329_0⟩ := at_T85 HR0_2.out x4_1 p329 q329
             cases e329
             replace hx329_0 := ck HB hx329_0
             have HR329_0 := Aside0.mk hi329_0
             have HC329_0 := Aside0.mk hl329_0
             clear hi329_0 hl329_0
             replace p329 := eq_true p329
             replace q329 := eq_true q329
             go_wp2
             go_roundg k2
             case measure => have := HK1.out; have := HK2.out; omega
             case rel => exact ⟨(x3_2), (wrap64 (x4_1 + 1)), sz_, sz_, H', ⟨by have := HK1.out; have := HK2.out; omega⟩, ⟨ kz⟩, ⟨ bz⟩⟩
         · rw [if_neg c6] at H
           exact absurd H (by simp)
       · rw [if_neg c5] at H
         exact absurd H (by simp)
   · rw [if_neg c3] at H
     have c3b0 : decide (x4_1 < (l0_2.length : Int)) = false := decide_eq_false c3
     clear c3
     obtain rfl := Option.some.inj H
     have hcz32_0 : wr.cell? ⟨gb328, 0, none⟩ = some (.int .i64 a0_0) := (blk_cell BK328.out 0).trans rfl
     have hcz32_1 : wr.cell? ⟨gb328, 1, none⟩ = some (.slice A0_1 l0_1.length c0_1) := (blk_cell BK328.out 1).trans rfl
     have hcz32_2 : wr.cell? ⟨gb328, 2, none⟩ = some (.slice A0_2 l0_2.length c0_2) := (blk_cell BK328.out 2).trans rfl
     go_wp2
     go_ret
     exact ⟨by first | rfl | (simp [errW_none, errW_some] <;> rfl) | (simp [*, errW_none, errW_some] <;> rfl), bz⟩

set_option linter.unusedVariables false
set_option linter.unusedSimpArgs false

def spec_l18Jumps.f (a0_0 : Int) (l0_1 : List Int) (l0_2 : List (S85)) (a1_0 : Int) (a1_1 : Int) (a1_2 : Int) (a1_3 : Int) (a1_4 : Int) (a1_5 : Int) (a1_6 : ByteArray) (l1_7 : List Int) : Option (Int) := if a1_0 = 23 then (if a1_5 < 0 then (some (-1)) else (if a1_5 ≥ (l0_2.length : Int) then (some (-1)) else (some a1_5))) else (if a1_0 = 24 then (if a1_5 < 0 then (some (-1)) else (if a1_5 ≥ (l0_2.length : Int) then (some (-1)) else (some a1_5))) else (if a1_0 = 25 then (if a1_5 < 0 then (some (-1)) else (if a1_5 ≥ (l0_2.length : Int) then (some (-1)) else (some a1_5))) else (some (-1))))
set_option maxHeartbeats 8000000 in
set_option maxRecDepth 100000 in
theorem spec_l18Jumps.calls (a0_0 : Int) (A0_1 : Option Addr) (c0_1 : Nat) (l0_1 : List Int) (A0_2 : Option Addr) (c0_2 : Nat) (l0_2 : List (S85)) (a1_0 : Int) (a1_1 : Int) (a1_2 : Int) (a1_3 : Int) (a1_4 : Int) (a1_5 : Int) (a1_6 : ByteArray) (A1_7 : Option Addr) (c1_7 : Nat) (l1_7 : List Int) (r : Int) (w : World) (hr0_1 : Kd.C (Kd.int .i64) w A0_1 l0_1.length l0_1) (hc0_1 : l0_1.length ≤ c0_1) (hr0_2 : Kd.C k85 w A0_2 l0_2.length l0_2) (hc0_2 : l0_2.length ≤ c0_2) (hr1_7 : Kd.C (Kd.int .i64) w A1_7 l1_7.length l1_7) (hc1_7 : l1_7.length ≤ c1_7) (h : spec_l18Jumps.f a0_0 l0_1 l0_2 a1_0 a1_1 a1_2 a1_3 a1_4 a1_5 a1_6 l1_7 = some r) :
 Calls Try.prog 128 #[.agg #[.int .i64 a0_0, .slice A0_1 l0_1.length c0_1, .slice A0_2 l0_2.length c0_2], .agg #[.int .i64 a1_0, .int .i64 a1_1, .int .i64 a1_2, .int .i64 a1_3, .int .i64 a1_4, .int .i64 a1_5, .string a1_6, .slice A1_7 l1_7.length c1_7]] w fun e w' => e = .returned (.int .i64 r) ∧ Below w.heap.size w w' := by
 have hu1 := Try.underlying29
 have hu4 := Try.underlying87
 unfold spec_l18Jumps.f at h
 have e1 : (w.alloc (.cells #[.int .i64 a0_0, .slice A0_1 l0_1.length c0_1, .slice A0_2 l0_2.length c0_2] 29 (0, 0))).heap.size = w.heap.size + 1 := by simp
 have HX1 := blk_new (w.alloc (.cells #[.int .i64 a0_0, .slice A0_1 l0_1.length c0_1, .slice A0_2 l0_2.length c0_2] 29 (0, 0))) (.cells #[.int .i64 a1_0, .int .i64 a1_1, .int .i64 a1_2, .int .i64 a1_3, .int .i64 a1_4, .int .i64 a1_5, .string a1_6, .slice A1_7 l1_7.length c1_7] 87 (0, 0))
 have HX0 := blk_alloc (blk_new w (.cells #[.int .i64 a0_0, .slice A0_1 l0_1.length c0_1, .slice A0_2 l0_2.length c0_2] 29 (0, 0))) (.cells #[.int .i64 a1_0, .int .i64 a1_1, .int .i64 a1_2, .int .i64 a1_3, .int .i64 a1_4, .int .i64 a1_5, .string a1_6, .slice A1_7 l1_7.length c1_7] 87 (0, 0))
 have e0 := (blk_cell HX1 0).trans rfl
 have e5 := (blk_cell HX1 5).trans rfl
 have g2 := (blk_cell HX0 2).trans rfl
 rw [e1] at e0 e5
 have HB := Aside0.mk (below_alloc (below_alloc (Below.refl w.heap.size w) (.cells #[.int .i64 a0_0, .slice A0_1 l0_1.length c0_1, .slice A0_2 l0_2.length c0_2] 29 (0, 0))) (.cells #[.int .i64 a1_0, .int .i64 a1_1, .int .i64 a1_2, .int .i64 a1_3, .int .i64 a1_4, .int .i64 a1_5, .string a1_6, .slice A1_7 l1_7.length c1_7] 87 (0, 0)))
 clear HX1 HX0 hr0_1 hr0_2 hr1_7
 go_enter Try.func128, Try.ntmps128
 by_cases c1 : a1_0 = 23
 · subst c1
   rw [if_pos rfl] at h
   by_cases c5 : a1_5 < 0
   · rw [if_pos c5] at h
     obtain rfl := Option.some.inj h
     have c5b := decide_eq_true c5
     clear h
     go_wp2
     go_ret
     exact ⟨rfl, HB.out⟩
   · rw [if_neg c5] at h
     have c5b := decide_eq_false c5
     by_cases c6 : a1_5 ≥ (l0_2.length : Int)
     · rw [if_pos c6] at h
       obtain rfl := Option.some.inj h
       have c6b : decide ((l0_2.length : Int) ≤ a1_5) = true := decide_eq_true c6
       clear h
       go_wp2
       go_ret
       exact ⟨rfl, HB.out⟩
     · rw [if_neg c6] at h
       obtain rfl := Option.some.inj h
       have c6b : decide ((l0_2.length : Int) ≤ a1_5) = false := decide_eq_false c6
       clear h
       go_wp2
       go_ret
       exact ⟨rfl, HB.out⟩
 · rw [if_neg c1] at h
   by_cases c2 : a1_0 = 24
   · subst c2
     rw [if_pos rfl] at h
     by_cases c5 : a1_5 < 0
     · rw [if_pos c5] at h
       obtain rfl := Option.some.inj h
       have c5b := decide_eq_true c5
       clear h
       go_wp2
       go_ret
       exact ⟨rfl, HB.out⟩
     · rw [if_neg c5] at h
       have c5b := decide_eq_false c5
       by_cases c6 : a1_5 ≥ (l0_2.length : Int)
       · rw [if_pos c6] at h
         obtain rfl := Option.some.inj h
         have c6b : decide ((l0_2.length : Int) ≤ a1_5) = true := decide_eq_true c6
         clear h
         go_wp2
         go_ret
         exact ⟨rfl, HB.out⟩
       · rw [if_neg c6] at h
         obtain rfl := Option.some.inj h
         have c6b : decide ((l0_2.length : Int) ≤ a1_5) = false := decide_eq_false c6
         clear h
         go_wp2
         go_ret
         exact ⟨rfl, HB.out⟩
   · rw [if_neg c2] at h
     by_cases c3 : a1_0 = 25
     · subst c3
       rw [if_pos rfl] at h
       by_cases c5 : a1_5 < 0
       · rw [if_pos c5] at h
         obtain rfl := Option.some.inj h
         have c5b := decide_eq_true c5
         clear h
         go_wp2
         go_ret
         exact ⟨rfl, HB.out⟩
       · rw [if_neg c5] at h
         have c5b := decide_eq_false c5
         by_cases c6 : a1_5 ≥ (l0_2.length : Int)
         · rw [if_pos c6] at h
           obtain rfl := Option.some.inj h
           have c6b : decide ((l0_2.length : Int) ≤ a1_5) = true := decide_eq_true c6
           clear h
           go_wp2
           go_ret
           exact ⟨rfl, HB.out⟩
         · rw [if_neg c6] at h
           obtain rfl := Option.some.inj h
           have c6b : decide ((l0_2.length : Int) ≤ a1_5) = false := decide_eq_false c6
           clear h
           go_wp2
           go_ret
           exact ⟨rfl, HB.out⟩
     · rw [if_neg c3] at h
       obtain rfl := Option.some.inj h
       have k1 : (a1_0 != 23) = true := bne_iff_ne.mpr c1
       have k2 : (a1_0 != 24) = true := bne_iff_ne.mpr c2
       have k3 : (a1_0 != 25) = true := bne_iff_ne.mpr c3
       have k4 : (a1_0 == 23) = false := beq_eq_false_iff_ne.mpr c1
       have k5 : (a1_0 == 24) = false := beq_eq_false_iff_ne.mpr c2
       have k6 : (a1_0 == 25) = false := beq_eq_false_iff_ne.mpr c3
       clear h
       go_wp2
       go_ret
       exact ⟨rfl, HB.out⟩

set_option linter.unusedVariables false
set_option linter.unusedSimpArgs false

mutual
def spec_l18Ahead.j0 : Nat → List Bool → Bool → Int → Int → Int → Int → Int → Int → ByteArray → List Int → Option (List Bool)
 | 0, _, _, _, _, _, _, _, _, _, _ => none
 | k + 1, x5, x20, x346000, x346001, x346002, x346003, x346004, x346005, x346006, x346007 => if x20 = true then (if 0 ≤ x346001 then (if x346001 < (x5.length : Int) then (spec_l18Ahead.j1 k (x5.set (x346001 : Int).toNat false) x346000 x346001 x346002 x346003 x346004 x346005 x346006 x346007) else (none)) else (none)) else (spec_l18Ahead.j1 k x5 x346000 x346001 x346002 x346003 x346004 x346005 x346006 x346007)
def spec_l18Ahead.j1 : Nat → List Bool → Int → Int → Int → Int → Int → Int → ByteArray → List Int → Option (List Bool)
 | 0, _, _, _, _, _, _, _, _, _ => none
 | k + 1, x5, x346000, x346001, x346002, x346003, x346004, x346005, x346006, x346007 => (spec_Reads.f k x346000 x346001 x346002 x346003 x346004 x346005 x346006 x346007).bind fun t353 => (spec_l18Ahead.l0 k x5 t353 0)
def spec_l18Ahead.l0 : Nat → List Bool → List Int → Int → Option (List Bool)
 | 0, _, _, _ => none
 | k + 1, x5, x6, x7 => if x7 < (x6.length : Int) then (if 0 ≤ x7 then (if (rd x6 x7) < (x5.length : Int) then (if 0 ≤ (rd x6 x7) then (spec_l18Ahead.l0 k (x5.set ((rd x6 x7) : Int).toNat true) x6 (wrap64 (x7 + 1))) else (none)) else (spec_l18Ahead.l0 k x5 x6 (wrap64 (x7 + 1)))) else (none)) else (some x5)
end
def spec_l18Ahead.f (k : Nat) (a0_0 : Int) (a0_1 : Int) (a0_2 : Int) (a0_3 : Int) (a0_4 : Int) (a0_5 : Int) (a0_6 : ByteArray) (l0_7 : List Int) (l1 : List Bool) : Option (List Bool) := (some (([] : List Bool) : List Bool)).bind fun y346 => (if y346.length + l1.length < 140737488355328 then ((some (y346 ++ l1 : List Bool)).bind fun y349 => (if a0_1 ≥ 0 then (spec_l18Ahead.j0 k y349 (decide (a0_1 < (y349.length : Int))) a0_0 a0_1 a0_2 a0_3 a0_4 a0_5 a0_6 l0_7) else (spec_l18Ahead.j0 k y349 false a0_0 a0_1 a0_2 a0_3 a0_4 a0_5 a0_6 l0_7))) else (none))
set_option maxHeartbeats 8000000 in
set_option maxRecDepth 100000 in
theorem spec_l18Ahead.calls (k : Nat) (a0_0 : Int) (a0_1 : Int) (a0_2 : Int) (a0_3 : Int) (a0_4 : Int) (a0_5 : Int) (a0_6 : ByteArray) (A0_7 : Option Addr) (c0_7 : Nat) (l0_7 : List Int) (A1 : Option Addr) (c1 : Nat) (l1 : List Bool) (r : List Bool) (w : World) (hr0_7 : Kd.C (Kd.int .i64) w A0_7 l0_7.length l0_7) (hc0_7 : l0_7.length ≤ c0_7) (hr1 : Kd.C Kd.bool w A1 l1.length l1) (hc1 : l1.length ≤ c1) (h : spec_l18Ahead.f k a0_0 a0_1 a0_2 a0_3 a0_4 a0_5 a0_6 l0_7 l1 = some r) :
 Calls Try.prog 156 #[.agg #[.int .i64 a0_0, .int .i64 a0_1, .int .i64 a0_2, .int .i64 a0_3, .int .i64 a0_4, .int .i64 a0_5, .string a0_6, .slice A0_7 l0_7.length c0_7], .slice A1 l1.length c1] w fun e w' => ∃ v0_ : Value, e = .returned (v0_) ∧ Kd.R Kd.bool 4 w' w.heap.size (fun _ => True) v0_ r ∧ Below w.heap.size w w' := by
 have hu87 := Try.underlying87
 have HR0_7 := Aside0.mk hr0_7
 have HC0_7 := Aside0.mk hc0_7
 clear hr0_7 hc0_7
 have HR1 := Aside0.mk hr1
 have HC1 := Aside0.mk hc1
 clear hr1 hc1
 have HB := Aside0.mk (Below.refl w.heap.size w)
 have H : ((some (([] : List Bool) : List Bool)).bind fun y346 => (if y346.length + l1.length < 140737488355328 then ((some (y346 ++ l1 : List Bool)).bind fun y349 => (if a0_1 ≥ 0 then (spec_l18Ahead.j0 k y349 (decide (a0_1 < (y349.length : Int))) a0_0 a0_1 a0_2 a0_3 a0_4 a0_5 a0_6 l0_7) else (spec_l18Ahead.j0 k y349 false a0_0 a0_1 a0_2 a0_3 a0_4 a0_5 a0_6 l0_7))) else (none))) = some r := h
 clear h
 obtain ⟨y346, hy346⟩ : ∃ y_ : List Bool, y_ = (([] : List Bool)) := ⟨_, rfl⟩
 replace H : (if y346.length + l1.length < 140737488355328 then ((some (y346 ++ l1 : List Bool)).bind fun y349 => (if a0_1 ≥ 0 then (spec_l18Ahead.j0 k y349 (decide (a0_1 < (y349.length : Int))) a0_0 a0_1 a0_2 a0_3 a0_4 a0_5 a0_6 l0_7) else (spec_l18Ahead.j0 k y349 false a0_0 a0_1 a0_2 a0_3 a0_4 a0_5 a0_6 l0_7))) else (none)) = some r := by first | (rw [hy346]; with_reducible exact H) | (have H2_ := (Option.bind_some _ _).symm.trans H; rw [hy346]; with_reducible exact H2_) | (have H2_ := (Option.bind_some _ _).symm.trans H; with_reducible exact H2_) | with_reducible exact H | (rw [hy346]; exact H) | exact H
 have Ny346 := Aside0.mk hy346
 clear hy346
 by_cases c3 : y346.length + l1.length < 140737488355328
 · rw [if_pos c3] at H
   have LMc3 := Aside0.mk c3
   clear c3
   obtain ⟨y349, hy349⟩ : ∃ y_ : List Bool, y_ = (y346 ++ l1) := ⟨_, rfl⟩
   replace H : (if a0_1 ≥ 0 then (spec_l18Ahead.j0 k y349 (decide (a0_1 < (y349.length : Int))) a0_0 a0_1 a0_2 a0_3 a0_4 a0_5 a0_6 l0_7) else (spec_l18Ahead.j0 k y349 false a0_0 a0_1 a0_2 a0_3 a0_4 a0_5 a0_6 l0_7)) = some r := by first | (rw [hy349]; with_reducible exact H) | (have H2_ := (Option.bind_some _ _).symm.trans H; rw [hy349]; with_reducible exact H2_) | (have H2_ := (Option.bind_some _ _).symm.trans H; with_reducible exact H2_) | with_reducible exact H | (rw [hy349]; exact H) | exact H
   have Ny349 := Aside0.mk hy349
   clear hy349
   have HC4 := Aside0.mk H
   clear H
   go_enter Try.func156, Try.ntmps156
   go_upto_region 2 with (first | ((with_reducible refine gate_dst (N := 2) rfl ?_); (try (refine gate_guard (by rfl) ?_; dsimp only)); refine box_event ?hg (N := 2) ?hd (cs := #[.int .i64 a0_0, .int .i64 a0_1, .int .i64 a0_2, .int .i64 a0_3, .int .i64 a0_4, .int .i64 a0_5, .string a0_6, .slice A0_7 l0_7.length c0_7]) (t := 87) ?hr ?_; (case hd => rfl); (case hg => rfl); (case hr => first | (go_simp; done) | (go_simp; rfl)); intro gb345 hg w5 hbox hb; have n0_ := Aside0.mk (below_step bz hb); have n1_ := Aside0.mk (hbox); have n2_ := Aside0.mk ((by rw [hg]; exact (below_size bz) : w.heap.size ≤ gb345)); have n3_ := Aside0.mk ((by rw [hg]; exact (below_size bz) : w.heap.size ≤ gb345)); clear HB; have HB := n0_; have BK345 := n1_; have GW345 := n2_; have GE345 := n3_; clear n0_ n1_ n2_ n3_; clear hb hbox hg) | ((with_reducible refine gate_dst (N := 8) rfl ?_); (try (refine gate_guard (by rfl) ?_; dsimp only)); refine Kd.R_lit Kd.bool _ 4 ?hg (N := 8) ?hd (xs := ([] : List Bool)) (inner := []) (ok := fun _ => True) (okp := fun _ => True) ?hr ?hp (fun _ hk => hk) trivial (Below.refl _ _) (Nat.le_refl _) (by simp) ?_; (case hd => rfl); (case hg => rfl); (case hr => first | (go_simp; done) | (go_simp; rfl)); (case hp => exact (Reps.none _ _)); intro v347 w6 ho7 hb hg_ hnew_; clear hg_ hnew_; (first | rw [← Ny346.out] at ho7 | (simp only [Int.reduceToNat] at ho7; rw [← Ny346.out] at ho7)); have n0_ := Aside0.mk (Kd.R_lower ho7 (below_size bz)); have n1_ := Aside0.mk (blk_below (g := gb345) (o := .cells #[.int .i64 a0_0, .int .i64 a0_1, .int .i64 a0_2, .int .i64 a0_3, .int .i64 a0_4, .int .i64 a0_5, .string a0_6, .slice A0_7 l0_7.length c0_7] 87 (0, 0)) kz hb); have n2_ := Aside0.mk (below_step bz hb); clear BK345; clear HB; have HO348 := n0_; have BK345 := n1_; have HB := n2_; clear n0_ n1_ n2_; clear hb ho7) | ((with_reducible refine gate_builtin (b := .append) (xs := #[.tmp 8, .tmp 9]) rfl ?_); (try (refine gate_guard (by rfl) ?_; dsimp only)); at_builtin; refine Kd.R_append_rows Kd.bool (w0 := w) w.heap.size rfl (.tmp 8) (.tmp 9) 97 4 (.bool false) 1 rfl Try.underlying97 info4 rfl (by decide) (by omega) v347 y346 l1 _ _ _ (fun _ => True) (fun _ => False) rfl rfl ?aO ?aR (fun _ _ h => h) (fun _ h => h.elim) ?aF ?aB ?aS ?aL ?_; (case aR => exact cz HR1.out); (case aB => exact bz); (case aF => exact (fun _ _ => trivial)); (case aO => exact (rz HO348.out)); (case aS => exact (below_size bz)); (case aL => have := LMc3.out; omega); intro v350 w8 ho hb hg hat; rw [← Ny349.out] at ho; have n0_ := Aside0.mk (blk_grown (g := gb345) (o := .cells #[.int .i64 a0_0, .int .i64 a0_1, .int .i64 a0_2, .int .i64 a0_3, .int .i64 a0_4, .int .i64 a0_5, .string a0_6, .slice A0_7 l0_7.length c0_7] 87 (0, 0)) kz hg (Kd.R_ne HO348.out BK345.out (by decide))); have n1_ := Aside0.mk (hb); have n2_ := Aside0.mk (ho); clear BK345; clear HB; clear HO348; have BK345 := n0_; have HB := n1_; have HO351 := n2_; clear n0_ n1_ n2_; clear ho hb hg hat))
   (try simp only [Act.put, sx1, sx2, sx3])
   go_cut [20] (fun v20 wc => ∃ (kq : Nat) (x20_3 : Bool), v20 = .bool x20_3 ∧ Aside0 (spec_l18Ahead.j0 kq y349 x20_3 a0_0 a0_1 a0_2 a0_3 a0_4 a0_5 a0_6 l0_7 = some r) ∧ Aside0 (kq ≤ k) ∧ Aside0 (Kd.R Kd.bool 4 wc w.heap.size (fun _ => True) v350 y349) ∧ Aside0 (wc.heap[gb345]? = some (.cells #[.int .i64 a0_0, .int .i64 a0_1, .int .i64 a0_2, .int .i64 a0_3, .int .i64 a0_4, .int .i64 a0_5, .string a0_6, (.slice A0_7 l0_7.length c0_7)] 87 (0, 0))) ∧ Aside0 (Below w.heap.size w wc))
   case first =>
    have H := HC4.out
    clear HC4
    by_cases c9 : a0_1 ≥ 0
    · rw [if_pos c9] at H
      have c9b0 : decide (0 ≤ a0_1) = true := decide_eq_true c9
      clear c9
      (first | rw [c9b0] | (simp only [i64_w, i32_w]; rw [c9b0]) | skip)
      have H' := Aside0.mk H
      clear H
      have hcz10_0 : w8.cell? ⟨gb345, 0, none⟩ = some (.int .i64 a0_0) := (blk_cell BK345.out 0).trans rfl
      have hcz10_1 : w8.cell? ⟨gb345, 1, none⟩ = some (.int .i64 a0_1) := (blk_cell BK345.out 1).trans rfl
      have hcz10_2 : w8.cell? ⟨gb345, 2, none⟩ = some (.int .i64 a0_2) := (blk_cell BK345.out 2).trans rfl
      have hcz10_3 : w8.cell? ⟨gb345, 3, none⟩ = some (.int .i64 a0_3) := (blk_cell BK345.out 3).trans rfl
      have hcz10_4 : w8.cell? ⟨gb345, 4, none⟩ = some (.int .i64 a0_4) := (blk_cell BK345.out 4).trans rfl
      have hcz10_5 : w8.cell? ⟨gb345, 5, none⟩ = some (.int .i64 a0_5) := (blk_cell BK345.out 5).trans rfl
      have hcz10_6 : w8.cell? ⟨gb345, 6, none⟩ = some (.string a0_6) := (blk_cell BK345.out 6).trans rfl
      have hcz10_7 : w8.cell? ⟨gb345, 7, none⟩ = some (.slice A0_7 l0_7.length c0_7) := (blk_cell BK345.out 7).trans rfl
      obtain ⟨Ao11, co11, eo11⟩ := Kd.R_slice HO351.out
      subst eo11
      go_wp2
      go_meet
      case rel => exact ⟨_, (decide (a0_1 < (y349.length : Int))), sz_, H', ⟨by first | omega | exact Nat.le_refl _⟩, ⟨by (with_reducible repeat (first | apply Kd.R_alloc | apply Kd.R_drewN | apply Kd.R_drew)); exact HO351.out⟩, ⟨ kz⟩, ⟨ bz⟩⟩
    · rw [if_neg c9] at H
      have c9b0 : decide (0 ≤ a0_1) = false := decide_eq_false c9
      clear c9
      (first | rw [c9b0] | (simp only [i64_w, i32_w]; rw [c9b0]) | skip)
      have H' := Aside0.mk H
      clear H
      have hcz12_0 : w8.cell? ⟨gb345, 0, none⟩ = some (.int .i64 a0_0) := (blk_cell BK345.out 0).trans rfl
      have hcz12_1 : w8.cell? ⟨gb345, 1, none⟩ = some (.int .i64 a0_1) := (blk_cell BK345.out 1).trans rfl
      have hcz12_2 : w8.cell? ⟨gb345, 2, none⟩ = some (.int .i64 a0_2) := (blk_cell BK345.out 2).trans rfl
      have hcz12_3 : w8.cell? ⟨gb345, 3, none⟩ = some (.int .i64 a0_3) := (blk_cell BK345.out 3).trans rfl
      have hcz12_4 : w8.cell? ⟨gb345, 4, none⟩ = some (.int .i64 a0_4) := (blk_cell BK345.out 4).trans rfl
      have hcz12_5 : w8.cell? ⟨gb345, 5, none⟩ = some (.int .i64 a0_5) := (blk_cell BK345.out 5).trans rfl
      have hcz12_6 : w8.cell? ⟨gb345, 6, none⟩ = some (.string a0_6) := (blk_cell BK345.out 6).trans rfl
      have hcz12_7 : w8.cell? ⟨gb345, 7, none⟩ = some (.slice A0_7 l0_7.length c0_7) := (blk_cell BK345.out 7).trans rfl
      go_wp2
      go_meet
      case rel => exact ⟨_, (false), sz_, H', ⟨by first | omega | exact Nat.le_refl _⟩, ⟨by (with_reducible repeat (first | apply Kd.R_alloc | apply Kd.R_drewN | apply Kd.R_drew)); exact HO351.out⟩, ⟨ kz⟩, ⟨ bz⟩⟩
   case rest =>
    clear HC4
    obtain ⟨kq, x20_3, rfl, HA, HJ3, HO_5, BK345, HB⟩ := hcut
    cases kq with
    | zero => exact absurd HA.out (by simp [spec_l18Ahead.j0])
    | succ kj3 =>
     have H := HA.out
     clear HA
     simp only [spec_l18Ahead.j0] at H
     have HC13 := Aside0.mk H
     clear H
     go_upto_if 20 with (fail)
     go_cut [] (fun wc => ∃ (kq : Nat) (x5_12 : List Bool), Aside0 (spec_l18Ahead.j1 kq x5_12 a0_0 a0_1 a0_2 a0_3 a0_4 a0_5 a0_6 l0_7 = some r) ∧ Aside0 (kq ≤ kj3) ∧ Aside0 (Kd.R Kd.bool 4 wc w.heap.size (fun _ => True) v350 x5_12) ∧ Aside0 (wc.heap[gb345]? = some (.cells #[.int .i64 a0_0, .int .i64 a0_1, .int .i64 a0_2, .int .i64 a0_3, .int .i64 a0_4, .int .i64 a0_5, .string a0_6, (.slice A0_7 l0_7.length c0_7)] 87 (0, 0))) ∧ Aside0 (Below w.heap.size w wc))
     case first =>
      have H := HC13.out
      clear HC13
      by_cases c14 : x20_3 = true
      · subst c14
        have H1 : (if 0 ≤ a0_1 then (if a0_1 < (y349.length : Int) then (spec_l18Ahead.j1 kj3 (y349.set (a0_1 : Int).toNat false) a0_0 a0_1 a0_2 a0_3 a0_4 a0_5 a0_6 l0_7) else (none)) else (none)) = some r := by rw [if_pos rfl] at H; exact H
        clear H
        have H := H1
        clear H1
        by_cases c15 : 0 ≤ a0_1
        · rw [if_pos c15] at H
          have c15b0 : decide (0 ≤ a0_1) = true := decide_eq_true c15
          clear c15
          (first | rw [c15b0] | (simp only [i64_w, i32_w]; rw [c15b0]) | skip)
          by_cases c16 : a0_1 < (y349.length : Int)
          · rw [if_pos c16] at H
            have c16b0 : decide (a0_1 < (y349.length : Int)) = true := decide_eq_true c16
            clear c16
            obtain ⟨y352, hy352⟩ : ∃ y_ : List Bool, y_ = (y349.set (a0_1 : Int).toNat false) := ⟨_, rfl⟩
            replace H : (spec_l18Ahead.j1 kj3 y352 a0_0 a0_1 a0_2 a0_3 a0_4 a0_5 a0_6 l0_7) = some r := by first | (rw [hy352]; with_reducible exact H) | (have H2_ := (Option.bind_some _ _).symm.trans H; rw [hy352]; with_reducible exact H2_) | (have H2_ := (Option.bind_some _ _).symm.trans H; with_reducible exact H2_) | with_reducible exact H | (rw [hy352]; exact H) | exact H
            have Ny352 := Aside0.mk hy352
            clear hy352
            have H' := Aside0.mk H
            clear H
            have hcz18_0 : wc.cell? ⟨gb345, 0, none⟩ = some (.int .i64 a0_0) := (blk_cell BK345.out 0).trans rfl
            have hcz18_1 : wc.cell? ⟨gb345, 1, none⟩ = some (.int .i64 a0_1) := (blk_cell BK345.out 1).trans rfl
            have hcz18_2 : wc.cell? ⟨gb345, 2, none⟩ = some (.int .i64 a0_2) := (blk_cell BK345.out 2).trans rfl
            have hcz18_3 : wc.cell? ⟨gb345, 3, none⟩ = some (.int .i64 a0_3) := (blk_cell BK345.out 3).trans rfl
            have hcz18_4 : wc.cell? ⟨gb345, 4, none⟩ = some (.int .i64 a0_4) := (blk_cell BK345.out 4).trans rfl
            have hcz18_5 : wc.cell? ⟨gb345, 5, none⟩ = some (.int .i64 a0_5) := (blk_cell BK345.out 5).trans rfl
            have hcz18_6 : wc.cell? ⟨gb345, 6, none⟩ = some (.string a0_6) := (blk_cell BK345.out 6).trans rfl
            have hcz18_7 : wc.cell? ⟨gb345, 7, none⟩ = some (.slice A0_7 l0_7.length c0_7) := (blk_cell BK345.out 7).trans rfl
            have p17 : 0 ≤ (a0_1 : Int) := of_decide_eq_true az
            have q17 : (a0_1 : Int) < ((y349.length : Int) : Int) := of_decide_eq_true az
            obtain ⟨go17, co17, eo17, gb17, gl17, cl17, HG17⟩ := Kd.R_form HO_5.out (by omega)
            (first | cases eo17 | (injection eo17 with ea_ en_ ec_; (first | subst ea_ | (injection ea_ with ea_; subst ea_)); subst ec_; clear en_))
            have GB17 := Aside0.mk gb17
            have GG17 := Aside0.mk HG17
            clear gb17 gl17 HG17
            obtain ⟨hx17_0, hf17_0⟩ := Kd.R_celln false HO_5.out (a0_1 : Int) p17 q17
            replace p17 := eq_true p17
            replace q17 := eq_true q17
            have HP19 := Kd.R_putg HO_5.out (a0_1 : Int) false
            go_wp2_with (first | ((with_reducible refine gate_store (t := 4) (p := 24) rfl ?_); refine store_event (t := 4) (p := 24) (v := ?vo_w20) (w1 := (wc.setCell ⟨go17, (a0_1 : Int).toNat, none⟩ (.bool false))) ?hg ?ho ?hn ?hr ?_; (case ho => rfl); (case hg => rfl); (case hn => rfl); (case hr => first | (go_simp; done) | (go_simp; rfl)); intro w20 hw; have hg : wc.grownBy w20 (some go17) := (by rw [hw]; exact HP19.2); have hp_ : Kd.R Kd.bool 4 w20 w.heap.size (fun _ => True) (.slice (some ⟨go17, 0, none⟩) y349.length co17) y352 := (by rw [hw, Ny352.out]; exact HP19.1); clear HP19; have n0_ := Aside0.mk (hp_); have n1_ := Aside0.mk (blk_grown (g := gb345) (o := .cells #[.int .i64 a0_0, .int .i64 a0_1, .int .i64 a0_2, .int .i64 a0_3, .int .i64 a0_4, .int .i64 a0_5, .string a0_6, .slice A0_7 l0_7.length c0_7] 87 (0, 0)) kz hg (Kd.R_ne HO_5.out BK345.out (by decide))); have n2_ := Aside0.mk ((by rw [hw]; exact below_set (HB.out) GB17.out : Below w.heap.size w w20)); clear HO_5; clear BK345; clear HB; have HO_5 := n0_; have BK345 := n1_; have HB := n2_; clear n0_ n1_ n2_; clear hg hw hp_))
            go_meet
            case rel => exact ⟨_, (y352), H', ⟨by have := HJ3.out; first | omega | exact Nat.le_refl _⟩, ⟨by (with_reducible repeat (first | apply Kd.R_alloc | apply Kd.R_drewN | apply Kd.R_drew)); exact HO_5.out⟩, ⟨ kz⟩, ⟨ bz⟩⟩
          · rw [if_neg c16] at H
            exact absurd H (by simp)
        · rw [if_neg c15] at H
          exact absurd H (by simp)
      · replace c14 := Bool.eq_false_iff.mpr c14
        subst c14
        have H1 : (spec_l18Ahead.j1 kj3 y349 a0_0 a0_1 a0_2 a0_3 a0_4 a0_5 a0_6 l0_7) = some r := by rw [if_neg (show ¬ (false = true) by decide)] at H; exact H
        clear H
        have H := H1
        clear H1
        have H' := Aside0.mk H
        clear H
        go_wp2
        go_meet
        case rel => exact ⟨_, (y349), H', ⟨by have := HJ3.out; first | omega | exact Nat.le_refl _⟩, ⟨by (with_reducible repeat (first | apply Kd.R_alloc | apply Kd.R_drewN | apply Kd.R_drew)); exact HO_5.out⟩, ⟨ kz⟩, ⟨ bz⟩⟩
     case rest =>
      clear HC13
      obtain ⟨kq, x5_12, HA, HJ12, HO_5, BK345, HB⟩ := hcut
      cases kq with
      | zero => exact absurd HA.out (by simp [spec_l18Ahead.j1])
      | succ kj12 =>
       have H := HA.out
       clear HA
       simp only [spec_l18Ahead.j1] at H
       replace H := Option.bind_eq_some_iff.mp H
       obtain ⟨t353, A210, H⟩ := H
       replace H : (spec_l18Ahead.l0 kj12 x5_12 t353 0) = some r := H
       have A21 := Aside0.mk A210
       clear A210
       have H' := Aside0.mk H
       clear H
       have hcz22_0 : wc.cell? ⟨gb345, 0, none⟩ = some (.int .i64 a0_0) := (blk_cell BK345.out 0).trans rfl
       have hcz22_1 : wc.cell? ⟨gb345, 1, none⟩ = some (.int .i64 a0_1) := (blk_cell BK345.out 1).trans rfl
       have hcz22_2 : wc.cell? ⟨gb345, 2, none⟩ = some (.int .i64 a0_2) := (blk_cell BK345.out 2).trans rfl
       have hcz22_3 : wc.cell? ⟨gb345, 3, none⟩ = some (.int .i64 a0_3) := (blk_cell BK345.out 3).trans rfl
       have hcz22_4 : wc.cell? ⟨gb345, 4, none⟩ = some (.int .i64 a0_4) := (blk_cell BK345.out 4).trans rfl
       have hcz22_5 : wc.cell? ⟨gb345, 5, none⟩ = some (.int .i64 a0_5) := (blk_cell BK345.out 5).trans rfl
       have hcz22_6 : wc.cell? ⟨gb345, 6, none⟩ = some (.string a0_6) := (blk_cell BK345.out 6).trans rfl
       have hcz22_7 : wc.cell? ⟨gb345, 7, none⟩ = some (.slice A0_7 l0_7.length c0_7) := (blk_cell BK345.out 7).trans rfl
       go_wp2_with (first | ((with_reducible refine gate_callee (f := 116) rfl ?_); refine goesL_ (some 26) rfl rfl Try.func116 (by kernel_rfl) rfl #[.agg #[.int .i64 a0_0, .int .i64 a0_1, .int .i64 a0_2, .int .i64 a0_3, .int .i64 a0_4, .int .i64 a0_5, .string a0_6, .slice A0_7 l0_7.length c0_7]] rfl lz ?_; (with_reducible refine (spec_Reads.calls kj12 a0_0 a0_1 a0_2 a0_3 a0_4 a0_5 a0_6 _ _ l0_7 t353 _ ?side1 ?side2 A21.out).mono ?_); (case side1 => exact cz HR0_7.out); (case side2 => exact HC0_7.out); rintro e w23 ⟨v354, rfl, ho0, hb⟩; refine ⟨_, rfl, ?_⟩; have n0_ := Aside0.mk (Kd.R_below (rz HO_5.out) hb); have n1_ := Aside0.mk (Kd.R_lower ho0 (below_size bz)); have n2_ := Aside0.mk (blk_below (g := gb345) (o := .cells #[.int .i64 a0_0, .int .i64 a0_1, .int .i64 a0_2, .int .i64 a0_3, .int .i64 a0_4, .int .i64 a0_5, .string a0_6, .slice A0_7 l0_7.length c0_7] 87 (0, 0)) kz hb); have n3_ := Aside0.mk (below_step bz hb); clear HO_5; clear BK345; clear HB; have HO_5 := n0_; have HO355 := n1_; have BK345 := n2_; have HB := n3_; clear n0_ n1_ n2_ n3_; (try clear hb); (try clear hb2); (try clear hk); (try clear hi); (try clear ho0)))
       go_loopg [7] kj12 (fun kq v7 w' => ∃ (x5_3 : List Bool) (x7_3 : Int), v7 = .int .i64 x7_3 ∧ Aside0 (spec_l18Ahead.l0 kq x5_3 t353 x7_3 = some r) ∧ Aside0 (kq ≤ kj12) ∧ Aside0 (Kd.R Kd.bool 4 w' w.heap.size (fun _ => True) v350 x5_3) ∧ Aside0 (Kd.R (Kd.int .i64) 2 w' w.heap.size (fun _ => True) v354 t353) ∧ Aside0 (w'.heap[gb345]? = some (.cells #[.int .i64 a0_0, .int .i64 a0_1, .int .i64 a0_2, .int .i64 a0_3, .int .i64 a0_4, .int .i64 a0_5, .string a0_6, (.slice A0_7 l0_7.length c0_7)] 87 (0, 0))) ∧ Aside0 (Below w.heap.size w w'))
       case atStart => exact ⟨(x5_12), (0), sz_, H', ⟨Nat.le_refl _⟩, ⟨by (with_reducible repeat (first | apply Kd.R_alloc | apply Kd.R_drewN | apply Kd.R_drew)); exact HO_5.out⟩, ⟨by (with_reducible repeat (first | apply Kd.R_alloc | apply Kd.R_drewN | apply Kd.R_drew)); exact HO355.out⟩, ⟨ kz⟩, ⟨ bz⟩⟩
       case round =>
        clear H'
        obtain ⟨x5_3, x7_3, rfl, HA, HK3, HO_5, HO_6, BK345, HB⟩ := hrel
        cases gk with
        | zero => exact absurd HA.out (by simp [spec_l18Ahead.l0])
        | succ k3 =>
         have H := HA.out
         clear HA
         simp only [spec_l18Ahead.l0] at H
         by_cases c24 : x7_3 < (t353.length : Int)
         · rw [if_pos c24] at H
           have c24b0 : decide (x7_3 < (t353.length : Int)) = true := decide_eq_true c24
           clear c24
           by_cases c25 : 0 ≤ x7_3
           · rw [if_pos c25] at H
             have c25b0 : decide (0 ≤ x7_3) = true := decide_eq_true c25
             clear c25
             by_cases c26 : (rd t353 x7_3) < (x5_3.length : Int)
             · rw [if_pos c26] at H
               have c26b0 : decide ((rd t353 x7_3) < (x5_3.length : Int)) = true := decide_eq_true c26
               clear c26
               by_cases c27 : 0 ≤ (rd t353 x7_3)
               · rw [if_pos c27] at H
                 have c27b0 : decide (0 ≤ (rd t353 x7_3)) = true := decide_eq_true c27
                 clear c27
                 obtain ⟨y358, hy358⟩ : ∃ y_ : List Bool, y_ = (x5_3.set ((rd t353 x7_3) : Int).toNat true) := ⟨_, rfl⟩
                 replace H : (spec_l18Ahead.l0 k3 y358 t353 (wrap64 (x7_3 + 1))) = some r := by first | (rw [hy358]; with_reducible exact H) | (have H2_ := (Option.bind_some _ _).symm.trans H; rw [hy358]; with_reducible exact H2_) | (have H2_ := (Option.bind_some _ _).symm.trans H; with_reducible exact H2_) | with_reducible exact H | (rw [hy358]; exact H) | exact H
                 have Ny358 := Aside0.mk hy358
                 clear hy358
                 have H' := Aside0.mk H
                 clear H
                 obtain ⟨Ao29, co29, eo29⟩ := Kd.R_slice HO_6.out
                 subst eo29
                 have p356 : 0 ≤ (x7_3 : Int) := of_decide_eq_true az
                 have q356 : x7_3 < (t353.length : Int) := of_decide_eq_true az
                 obtain ⟨ad356, e356, hx356_0⟩ := Kd.at_int (Kd.R_reads' HO_6.out).2.2 x7_3 p356 q356
                 cases e356
                 replace p356 := eq_true p356
                 replace q356 := eq_true q356
                 obtain ⟨Ao30, co30, eo30⟩ := Kd.R_slice HO_5.out
                 subst eo30
                 have p357 : 0 ≤ (x7_3 : Int) := of_decide_eq_true az
                 have q357 : x7_3 < (t353.length : Int) := of_decide_eq_true az
                 obtain ⟨ad357, e357, hx357_0⟩ := Kd.at_int (Kd.R_reads' HO_6.out).2.2 x7_3 p357 q357
                 obtain rfl : ad356 = ad357 := (by injection e357)
                 replace p357 := eq_true p357
                 replace q357 := eq_true q357
                 have p28 : 0 ≤ ((rd t353 x7_3) : Int) := of_decide_eq_true az
                 have q28 : ((rd t353 x7_3) : Int) < ((x5_3.length : Int) : Int) := of_decide_eq_true az
                 obtain ⟨go28, co28, eo28, gb28, gl28, cl28, HG28⟩ := Kd.R_form HO_5.out (by omega)
                 (first | cases eo28 | (injection eo28 with ea_ en_ ec_; (first | subst ea_ | (injection ea_ with ea_; subst ea_)); subst ec_; clear en_))
                 have GB28 := Aside0.mk gb28
                 have GG28 := Aside0.mk HG28
                 clear gb28 gl28 HG28
                 obtain ⟨hx28_0, hf28_0⟩ := Kd.R_celln false HO_5.out ((rd t353 x7_3) : Int) p28 q28
                 replace p28 := eq_true p28
                 replace q28 := eq_true q28
                 have HP31 := Kd.R_putg HO_5.out ((rd t353 x7_3) : Int) true
                 go_wp2_with (first | ((with_reducible refine gate_store (t := 4) (p := 45) rfl ?_); refine store_event (t := 4) (p := 45) (v := ?vo_w32) (w1 := (wr.setCell ⟨go28, ((rd t353 x7_3) : Int).toNat, none⟩ (.bool true))) ?hg ?ho ?hn ?hr ?_; (case ho => rfl); (case hg => rfl); (case hn => rfl); (case hr => first | (go_simp; done) | (go_simp; rfl)); intro w32 hw; have hg : wr.grownBy w32 (some go28) := (by rw [hw]; exact HP31.2); have hp_ : Kd.R Kd.bool 4 w32 w.heap.size (fun _ => True) (.slice (some ⟨go28, 0, none⟩) x5_3.length co30) y358 := (by rw [hw, Ny358.out]; exact HP31.1); clear HP31; have n0_ := Aside0.mk (hp_); have n1_ := Aside0.mk (Kd.R_over' (v := (.slice (some ⟨go28, 0, none⟩) x5_3.length co30)) (rz HO_6.out) (Kd.R_typed HO_5.out) (by decide) hg); have n2_ := Aside0.mk (blk_grown (g := gb345) (o := .cells #[.int .i64 a0_0, .int .i64 a0_1, .int .i64 a0_2, .int .i64 a0_3, .int .i64 a0_4, .int .i64 a0_5, .string a0_6, .slice A0_7 l0_7.length c0_7] 87 (0, 0)) kz hg (Kd.R_ne HO_5.out BK345.out (by decide))); have n3_ := Aside0.mk ((by rw [hw]; exact below_set (HB.out) GB28.out : Below w.heap.size w w32)); clear HO_5; clear HO_6; clear BK345; clear HB; have HO_5 := n0_; have HO_6 := n1_; have BK345 := n2_; have HB := n3_; clear n0_ n1_ n2_ n3_; clear hg hw hp_))
                 go_roundg k3
                 case measure => have := HJ3.out; have := HJ12.out; have := HK3.out; omega
                 case rel => exact ⟨(y358), (wrap64 (x7_3 + 1)), sz_, H', ⟨by have := HJ3.out; have := HJ12.out; have := HK3.out; omega⟩, ⟨by (with_reducible repeat (first | apply Kd.R_alloc | apply Kd.R_drewN | apply Kd.R_drew)); exact HO_5.out⟩, ⟨by (with_reducible repeat (first | apply Kd.R_alloc | apply Kd.R_drewN | apply Kd.R_drew)); exact HO_6.out⟩, ⟨ kz⟩, ⟨ bz⟩⟩
               · rw [if_neg c27] at H
                 exact absurd H (by simp)
             · rw [if_neg c26] at H
               have c26b0 : decide ((rd t353 x7_3) < (x5_3.length : Int)) = false := decide_eq_false c26
               clear c26
               have H' := Aside0.mk H
               clear H
               obtain ⟨Ao33, co33, eo33⟩ := Kd.R_slice HO_6.out
               subst eo33
               have p356 : 0 ≤ (x7_3 : Int) := of_decide_eq_true az
               have q356 : x7_3 < (t353.length : Int) := of_decide_eq_true az
               obtain ⟨ad356, e356, hx356_0⟩ := Kd.at_int (Kd.R_reads' HO_6.out).2.2 x7_3 p356 q356
               cases e356
               replace p356 := eq_true p356
               replace q356 := eq_true q356
               obtain ⟨Ao34, co34, eo34⟩ := Kd.R_slice HO_5.out
               subst eo34
               go_wp2
               go_roundg k3
               case measure => have := HJ3.out; have := HJ12.out; have := HK3.out; omega
               case rel => exact ⟨(x5_3), (wrap64 (x7_3 + 1)), sz_, H', ⟨by have := HJ3.out; have := HJ12.out; have := HK3.out; omega⟩, ⟨by (with_reducible repeat (first | apply Kd.R_alloc | apply Kd.R_drewN | apply Kd.R_drew)); exact HO_5.out⟩, ⟨by (with_reducible repeat (first | apply Kd.R_alloc | apply Kd.R_drewN | apply Kd.R_drew)); exact HO_6.out⟩, ⟨ kz⟩, ⟨ bz⟩⟩
           · rw [if_neg c25] at H
             exact absurd H (by simp)
         · rw [if_neg c24] at H
           have c24b0 : decide (x7_3 < (t353.length : Int)) = false := decide_eq_false c24
           clear c24
           obtain rfl := Option.some.inj H
           obtain ⟨Ao35, co35, eo35⟩ := Kd.R_slice HO_6.out
           subst eo35
           go_wp2
           go_ret
           exact ⟨_, by first | rfl | (simp [errW_none, errW_some] <;> rfl) | (simp [*, errW_none, errW_some] <;> rfl), by (with_reducible repeat (first | apply Kd.R_alloc | apply Kd.R_drewN | apply Kd.R_drew)); exact HO_5.out, bz⟩
 · rw [if_neg c3] at H
   exact absurd H (by simp)

set_option linter.unusedVariables false
set_option linter.unusedSimpArgs false

def spec_l18Goes.f (a0_0 : Int) (a0_1 : Int) (a0_2 : Int) (a0_3 : Int) (a0_4 : Int) (a0_5 : Int) (a0_6 : ByteArray) (l0_7 : List Int) : Option (Bool) := if a0_0 = 23 then (some false) else (if a0_0 = 62 then (some false) else (some (a0_0 != 29)))
set_option maxHeartbeats 8000000 in
set_option maxRecDepth 100000 in
theorem spec_l18Goes.calls (a0_0 : Int) (a0_1 : Int) (a0_2 : Int) (a0_3 : Int) (a0_4 : Int) (a0_5 : Int) (a0_6 : ByteArray) (A0_7 : Option Addr) (c0_7 : Nat) (l0_7 : List Int) (r : Bool) (w : World) (hr0_7 : Kd.C (Kd.int .i64) w A0_7 l0_7.length l0_7) (hc0_7 : l0_7.length ≤ c0_7) (h : spec_l18Goes.f a0_0 a0_1 a0_2 a0_3 a0_4 a0_5 a0_6 l0_7 = some r) :
 Calls Try.prog 127 #[.agg #[.int .i64 a0_0, .int .i64 a0_1, .int .i64 a0_2, .int .i64 a0_3, .int .i64 a0_4, .int .i64 a0_5, .string a0_6, .slice A0_7 l0_7.length c0_7]] w fun e w' => e = .returned (.bool r) ∧ Below w.heap.size w w' := by
 have hu87 := Try.underlying87
 have HR0_7 := Aside0.mk hr0_7
 have HC0_7 := Aside0.mk hc0_7
 clear hr0_7 hc0_7
 have HB := Aside0.mk (Below.refl w.heap.size w)
 have H : (if a0_0 = 23 then (some false) else (if a0_0 = 62 then (some false) else (some (a0_0 != 29)))) = some r := h
 clear h
 by_cases c2 : a0_0 = 23
 · rw [if_pos c2] at H
   have c2b0 : (a0_0 == 23) = true := beq_iff_eq.mpr c2
   have c2b1 : (a0_0 != 23) = false := bne_eq_false_iff_eq.mpr c2
   clear c2
   obtain rfl := Option.some.inj H
   go_enter Try.func127, Try.ntmps127
   go_wp2_with (first | ((with_reducible refine gate_dst (N := 1) rfl ?_); refine box_event ?hg (N := 1) ?hd (cs := #[.int .i64 a0_0, .int .i64 a0_1, .int .i64 a0_2, .int .i64 a0_3, .int .i64 a0_4, .int .i64 a0_5, .string a0_6, .slice A0_7 l0_7.length c0_7]) (t := 87) ?hr ?_; (case hd => rfl); (case hg => rfl); (case hr => first | (go_simp; done) | (go_simp; rfl)); intro gb359 hg w3 hbox hb; have BK359 := Aside0.mk (hbox); have GW359 := Aside0.mk ((by rw [hg]; exact (below_size bz) : w.heap.size ≤ gb359)); have GE359 := Aside0.mk ((by rw [hg]; exact (below_size bz) : w.heap.size ≤ gb359)); replace HB := Aside0.mk (below_step bz hb); clear hb hbox hg; have hcz4_0 : w3.cell? ⟨gb359, 0, none⟩ = some (.int .i64 a0_0) := (blk_cell BK359.out 0).trans rfl; have hcz4_1 : w3.cell? ⟨gb359, 1, none⟩ = some (.int .i64 a0_1) := (blk_cell BK359.out 1).trans rfl; have hcz4_2 : w3.cell? ⟨gb359, 2, none⟩ = some (.int .i64 a0_2) := (blk_cell BK359.out 2).trans rfl; have hcz4_3 : w3.cell? ⟨gb359, 3, none⟩ = some (.int .i64 a0_3) := (blk_cell BK359.out 3).trans rfl; have hcz4_4 : w3.cell? ⟨gb359, 4, none⟩ = some (.int .i64 a0_4) := (blk_cell BK359.out 4).trans rfl; have hcz4_5 : w3.cell? ⟨gb359, 5, none⟩ = some (.int .i64 a0_5) := (blk_cell BK359.out 5).trans rfl; have hcz4_6 : w3.cell? ⟨gb359, 6, none⟩ = some (.string a0_6) := (blk_cell BK359.out 6).trans rfl; have hcz4_7 : w3.cell? ⟨gb359, 7, none⟩ = some (.slice A0_7 l0_7.length c0_7) := (blk_cell BK359.out 7).trans rfl; have hfz4_0 := blk_frozen BK359.out 0; have hfz4_1 := blk_frozen BK359.out 1; have hfz4_2 := blk_frozen BK359.out 2; have hfz4_3 := blk_frozen BK359.out 3; have hfz4_4 := blk_frozen BK359.out 4; have hfz4_5 := blk_frozen BK359.out 5; have hfz4_6 := blk_frozen BK359.out 6; have hfz4_7 := blk_frozen BK359.out 7))
   go_ret
   exact ⟨by first | rfl | (simp [errW_none, errW_some] <;> rfl) | (simp [*, errW_none, errW_some] <;> rfl), bz⟩
 · rw [if_neg c2] at H
   have c2b0 : (a0_0 == 23) = false := beq_eq_false_iff_ne.mpr c2
   have c2b1 : (a0_0 != 23) = true := bne_iff_ne.mpr c2
   by_cases c5 : a0_0 = 62
   · rw [if_pos c5] at H
     have c5b0 : (a0_0 == 62) = true := beq_iff_eq.mpr c5
     have c5b1 : (a0_0 != 62) = false := bne_eq_false_iff_eq.mpr c5
     clear c5
     obtain rfl := Option.some.inj H
     go_enter Try.func127, Try.ntmps127
     go_wp2_with (first | ((with_reducible refine gate_dst (N := 1) rfl ?_); refine box_event ?hg (N := 1) ?hd (cs := #[.int .i64 a0_0, .int .i64 a0_1, .int .i64 a0_2, .int .i64 a0_3, .int .i64 a0_4, .int .i64 a0_5, .string a0_6, .slice A0_7 l0_7.length c0_7]) (t := 87) ?hr ?_; (case hd => rfl); (case hg => rfl); (case hr => first | (go_simp; done) | (go_simp; rfl)); intro gb359 hg w6 hbox hb; have BK359 := Aside0.mk (hbox); have GW359 := Aside0.mk ((by rw [hg]; exact (below_size bz) : w.heap.size ≤ gb359)); have GE359 := Aside0.mk ((by rw [hg]; exact (below_size bz) : w.heap.size ≤ gb359)); replace HB := Aside0.mk (below_step bz hb); clear hb hbox hg; have hcz7_0 : w6.cell? ⟨gb359, 0, none⟩ = some (.int .i64 a0_0) := (blk_cell BK359.out 0).trans rfl; have hcz7_1 : w6.cell? ⟨gb359, 1, none⟩ = some (.int .i64 a0_1) := (blk_cell BK359.out 1).trans rfl; have hcz7_2 : w6.cell? ⟨gb359, 2, none⟩ = some (.int .i64 a0_2) := (blk_cell BK359.out 2).trans rfl; have hcz7_3 : w6.cell? ⟨gb359, 3, none⟩ = some (.int .i64 a0_3) := (blk_cell BK359.out 3).trans rfl; have hcz7_4 : w6.cell? ⟨gb359, 4, none⟩ = some (.int .i64 a0_4) := (blk_cell BK359.out 4).trans rfl; have hcz7_5 : w6.cell? ⟨gb359, 5, none⟩ = some (.int .i64 a0_5) := (blk_cell BK359.out 5).trans rfl; have hcz7_6 : w6.cell? ⟨gb359, 6, none⟩ = some (.string a0_6) := (blk_cell BK359.out 6).trans rfl; have hcz7_7 : w6.cell? ⟨gb359, 7, none⟩ = some (.slice A0_7 l0_7.length c0_7) := (blk_cell BK359.out 7).trans rfl; have hfz7_0 := blk_frozen BK359.out 0; have hfz7_1 := blk_frozen BK359.out 1; have hfz7_2 := blk_frozen BK359.out 2; have hfz7_3 := blk_frozen BK359.out 3; have hfz7_4 := blk_frozen BK359.out 4; have hfz7_5 := blk_frozen BK359.out 5; have hfz7_6 := blk_frozen BK359.out 6; have hfz7_7 := blk_frozen BK359.out 7))
     go_ret
     exact ⟨by first | rfl | (simp [errW_none, errW_some] <;> rfl) | (simp [*, errW_none, errW_some] <;> rfl), bz⟩
   · rw [if_neg c5] at H
     have c5b0 : (a0_0 == 62) = false := beq_eq_false_iff_ne.mpr c5
     have c5b1 : (a0_0 != 62) = true := bne_iff_ne.mpr c5
     obtain rfl := Option.some.inj H
     go_enter Try.func127, Try.ntmps127
     go_wp2_with (first | ((with_reducible refine gate_dst (N := 1) rfl ?_); refine box_event ?hg (N := 1) ?hd (cs := #[.int .i64 a0_0, .int .i64 a0_1, .int .i64 a0_2, .int .i64 a0_3, .int .i64 a0_4, .int .i64 a0_5, .string a0_6, .slice A0_7 l0_7.length c0_7]) (t := 87) ?hr ?_; (case hd => rfl); (case hg => rfl); (case hr => first | (go_simp; done) | (go_simp; rfl)); intro gb359 hg w8 hbox hb; have BK359 := Aside0.mk (hbox); have GW359 := Aside0.mk ((by rw [hg]; exact (below_size bz) : w.heap.size ≤ gb359)); have GE359 := Aside0.mk ((by rw [hg]; exact (below_size bz) : w.heap.size ≤ gb359)); replace HB := Aside0.mk (below_step bz hb); clear hb hbox hg; have hcz9_0 : w8.cell? ⟨gb359, 0, none⟩ = some (.int .i64 a0_0) := (blk_cell BK359.out 0).trans rfl; have hcz9_1 : w8.cell? ⟨gb359, 1, none⟩ = some (.int .i64 a0_1) := (blk_cell BK359.out 1).trans rfl; have hcz9_2 : w8.cell? ⟨gb359, 2, none⟩ = some (.int .i64 a0_2) := (blk_cell BK359.out 2).trans rfl; have hcz9_3 : w8.cell? ⟨gb359, 3, none⟩ = some (.int .i64 a0_3) := (blk_cell BK359.out 3).trans rfl; have hcz9_4 : w8.cell? ⟨gb359, 4, none⟩ = some (.int .i64 a0_4) := (blk_cell BK359.out 4).trans rfl; have hcz9_5 : w8.cell? ⟨gb359, 5, none⟩ = some (.int .i64 a0_5) := (blk_cell BK359.out 5).trans rfl; have hcz9_6 : w8.cell? ⟨gb359, 6, none⟩ = some (.string a0_6) := (blk_cell BK359.out 6).trans rfl; have hcz9_7 : w8.cell? ⟨gb359, 7, none⟩ = some (.slice A0_7 l0_7.length c0_7) := (blk_cell BK359.out 7).trans rfl; have hfz9_0 := blk_frozen BK359.out 0; have hfz9_1 := blk_frozen BK359.out 1; have hfz9_2 := blk_frozen BK359.out 2; have hfz9_3 := blk_frozen BK359.out 3; have hfz9_4 := blk_frozen BK359.out 4; have hfz9_5 := blk_frozen BK359.out 5; have hfz9_6 := blk_frozen BK359.out 6; have hfz9_7 := blk_frozen BK359.out 7))
     go_ret
     exact ⟨by first | rfl | (simp [errW_none, errW_some] <;> rfl) | (simp [*, errW_none, errW_some] <;> rfl), bz⟩

end Go.Proofs.Ythegbhfoleiegaa.All

/- copy of a row of Booleans into one of the call's own; what spec.l18Behind computes. -/
namespace Go.Proofs.Ythegbhfoleiegaa.All
open Go.RowKit Go.Proofs.YthegbhfoleiegaaW.PrintWords Go.Proofs.YthegbhfoleiegaaW.PrintLast Go.Proofs.YthegbhfoleiegaaW.PrintMore
set_option linter.unusedVariables false
set_option linter.unusedSimpArgs false
def orTo (m : Nat) (a b : List Bool) : List Bool := (List.range a.length).map fun r => a.getD r false || (decide (r < m) && b.getD r false)
theorem orTo_len (m : Nat) (a b : List Bool) : (orTo m a b).length = a.length := by unfold orTo; simp
theorem orTo_getD (m : Nat) (a b : List Bool) (r : Nat) (h : r < a.length) : (orTo m a b).getD r false = (a.getD r false || (decide (r < m) && b.getD r false)) := by
  unfold orTo
  rw [List.getD_eq_getElem?_getD, List.getElem?_map, List.getElem?_range h]
  rfl
theorem list_ext_getD {a b : List Bool} (hl : a.length = b.length) (h : ∀ r, r < a.length → a.getD r false = b.getD r false) : a = b := by
  refine List.ext_getElem hl (fun i h1 h2 => ?_)
  have := h i h1
  rw [List.getD_eq_getElem?_getD, List.getD_eq_getElem?_getD, List.getElem?_eq_getElem h1, List.getElem?_eq_getElem h2] at this
  exact this
theorem orTo_zero (a b : List Bool) : orTo 0 a b = a := list_ext_getD (orTo_len 0 a b) (fun r h => by rw [orTo_len] at h; rw [orTo_getD 0 a b r h]; simp)
theorem orTo_succ (m : Nat) (a b : List Bool) (hm : m < a.length) : (orTo m a b).set m ((orTo m a b).getD m false || b.getD m false) = orTo (m + 1) a b := by
  refine list_ext_getD (by rw [List.length_set, orTo_len, orTo_len]) (fun r h => ?_)
  rw [List.length_set, orTo_len] at h
  rw [orTo_getD (m + 1) a b r h, List.getD_eq_getElem?_getD, List.getElem?_set]
  by_cases hr : m = r
  · subst hr
    rw [if_pos rfl, if_pos (by rw [orTo_len]; exact h), orTo_getD m a b m h]
    simp
  · rw [if_neg hr, ← List.getD_eq_getElem?_getD, orTo_getD m a b r h]
    have : decide (r < m) = decide (r < m + 1) := decide_eq_decide.2 (by omega)
    rw [this]
section
variable {P : Program} {w : World} {ops : Array Oper} {rest : List Oper} {o : Oper} {a : Act} {Q : Exit → Act → World → Prop}
theorem wpList_copy_R (hgd : o.guard = none) (d s : Operand) (dT sT : TypeId)
    (ho : o.op = .call { callee := .builtin .copy, args := #[d, s], argTypes := #[dT, sT] }) (elem : TypeId) (hu : P.underlying dT = some (.slice elem)) (hsz : (P.info? elem).map (·.size) = some 1)
    (A sp : Option Addr) (n c sCap : Nat) (hd : a.eval d = .slice A n c) (hs : a.eval s = .slice sp n sCap) (base : Nat) (ok : Nat → Prop) (xs ys : List Bool) (HO : Kd.bool.R elem w base ok (.slice A n c) xs) (hn : xs.length = n) (hy : ys.length = n)
    (hC : Kd.C Kd.bool w sp n ys) (w0 : World) (hb : Below base w0 w) (h : ∀ w', Kd.bool.R elem w' base ok (.slice A n c) ys → Below base w0 w' → wpList P ops Q rest (a.put o.dst (goInt n)) w') :
    wpList P ops Q (o :: rest) a w := by
  rcases Nat.eq_zero_or_pos n with h0 | h0
  · subst h0
    have e1 : xs = [] := List.eq_nil_of_length_eq_zero hn
    have e2 : ys = [] := List.eq_nil_of_length_eq_zero hy
    subst e1
    subst e2
    exact wpList_copy_nothing hgd d s dT sT ho elem hu hsz A sp 0 c 0 sCap hd hs (by simp) (h w HO hb)
  · obtain ⟨h1, inner, ho2, hr⟩ := HO
    have e1 : inner = xs.map Value.bool := Kd.reps_encs (enc := Value.bool) hr
    subst e1
    obtain ⟨hz, ⟨hv, hn0⟩ | ⟨g, cap, cur, hv, hbg, hg, hle, hcap, hsz2, htk⟩⟩ := ho2
    · injection hv with e2 e3 e4
      omega
    · injection hv with e2 e3 e4
      subst e2
      subst e4
      obtain ⟨ad, c0, rfl, _, _, _⟩ := Kd.C_get hC false 0 (by omega) (by omega)
      change cur.toList.take (xs.length * 1) = _ at htk
      rw [Nat.mul_one] at htk
      have hcl : n ≤ cur.toList.length := by rw [← hn]; have := congrArg List.length htk; simp at this; simp; omega
      refine wpList_copy_splice hgd d s dT sT ho elem hu hsz _ _ n c n sCap hd hs g 0 cur.toList elem (by simpa using hg) (ys.map Value.bool) (by simp [hy]) (fun _ => ⟨rfl, ad, rfl, fun j v hj => ?_⟩) (by simp [hy]; simpa using hcl) (fun v hv => by obtain ⟨b, _, rfl⟩ := List.mem_map.1 hv; rfl) base w0 hb hbg (fun w' h2 h3 => ?_)
      · rw [List.getElem?_map] at hj
        obtain ⟨y, hy1, rfl⟩ := Option.map_eq_some_iff.1 hj
        have hjl : j < ys.length := (List.getElem?_eq_some_iff.1 hy1).1
        obtain ⟨ad', c', e', _, hK, hc'⟩ := Kd.C_get hC false (j : Int) (by omega) (by omega)
        cases e'
        have := hc' 0 _ (by have hK2 : c' = [Value.bool (ys.getD j false)] := hK; rw [hK2]; rfl)
        rw [Int.toNat_natCast] at this
        change w.cell? (ad.add (j * 1 + 0)) = _ at this
        rw [Nat.mul_one, Nat.add_zero] at this
        have e5 : ys.getD j false = y := by rw [List.getD_eq_getElem?_getD, hy1]; rfl
        rw [e5] at this
        exact this
      · have hlen : (splice cur.toList 0 (ys.map Value.bool)).length = cur.toList.length := length_splice _ _ _ (by simp [hy]; simpa using hcl)
        have h4 : w'.ownsRow base elem 1 (.slice (some ⟨g, 0, none⟩) n c) ys.length (ys.map Value.bool) := by
          refine ⟨by simp, .inr ⟨g, c, (splice cur.toList 0 (ys.map Value.bool)).toArray, by rw [hy], hbg, h2, by rw [hy, ← hn]; exact hle, hcap, ?_, ?_⟩⟩
          · simp only [List.size_toArray]; rw [hlen]; exact hsz2
          · rw [Nat.mul_one]; simp [splice, hy]
        have e9 : (goInt ((ys.map Value.bool).length : Nat)) = goInt n := by simp [hy]
        have h5 := h w' ⟨h1, _, h4, Kd.reps_scalar (enc := Value.bool) ys⟩ h3
        simpa [hy] using h5
end
end Go.Proofs.Ythegbhfoleiegaa.All

namespace Go.Proofs.Ythegbhfoleiegaa.All
open Go.RowKit Go.Proofs.YthegbhfoleiegaaW.PrintWords Go.Proofs.YthegbhfoleiegaaW.PrintLast Go.Proofs.YthegbhfoleiegaaW.PrintMore
attribute [local go_sem] max2_int min2_int max_two min_two max_three min_three max_four min_four   -- for this text's walks alone
set_option linter.unusedVariables false
set_option linter.unusedSimpArgs false

def spec_l18Behind.f (k : Nat) (a0_0 : Int) (l0_1 : List Int) (l0_2 : List (S85)) (l1 : List (List Bool)) (a2 : Int) (a3 : Int) (l4 : List Bool) : Option (List Bool) :=
 if 0 ≤ a2 then if a2 < (l0_2.length : Int) then if 0 ≤ a3 then if a3 < (((rd_T85 l0_2 a2).f0).length : Int) then if l4.length ≤ 1000000000 then
  (spec_l18Goes.f (rd_T87 (rd_T85 l0_2 a2).f0 a3).f0 (rd_T87 (rd_T85 l0_2 a2).f0 a3).f1 (rd_T87 (rd_T85 l0_2 a2).f0 a3).f2 (rd_T87 (rd_T85 l0_2 a2).f0 a3).f3 (rd_T87 (rd_T85 l0_2 a2).f0 a3).f4 (rd_T87 (rd_T85 l0_2 a2).f0 a3).f5 (rd_T87 (rd_T85 l0_2 a2).f0 a3).f6 (rd_T87 (rd_T85 l0_2 a2).f0 a3).f7).bind fun g =>
  (spec_l18Jumps.f a0_0 l0_1 l0_2 (rd_T87 (rd_T85 l0_2 a2).f0 a3).f0 (rd_T87 (rd_T85 l0_2 a2).f0 a3).f1 (rd_T87 (rd_T85 l0_2 a2).f0 a3).f2 (rd_T87 (rd_T85 l0_2 a2).f0 a3).f3 (rd_T87 (rd_T85 l0_2 a2).f0 a3).f4 (rd_T87 (rd_T85 l0_2 a2).f0 a3).f5 (rd_T87 (rd_T85 l0_2 a2).f0 a3).f6 (rd_T87 (rd_T85 l0_2 a2).f0 a3).f7).bind fun tg =>
  if 0 ≤ tg then if tg < (l1.length : Int) then if l4.length ≤ (l1.getD tg.toNat []).length then some (orTo l4.length (if g = true then l4 else List.replicate l4.length false) (l1.getD tg.toNat [])) else none else none else some (if g = true then l4 else List.replicate l4.length false)
 else none else none else none else none else none
set_option maxHeartbeats 8000000 in
set_option maxRecDepth 100000 in
theorem spec_l18Behind.calls (k : Nat) (a0_0 : Int) (A0_1 : Option Addr) (c0_1 : Nat) (l0_1 : List Int) (A0_2 : Option Addr) (c0_2 : Nat) (l0_2 : List (S85)) (A1 : Option Addr) (c1 : Nat) (l1 : List (List Bool)) (a2 : Int) (a3 : Int) (A4 : Option Addr) (c4 : Nat) (l4 : List Bool) (r : List Bool) (w : World) (hr0_1 : Kd.C (Kd.int .i64) w A0_1 l0_1.length l0_1) (hc0_1 : l0_1.length ≤ c0_1) (hr0_2 : Kd.C k85 w A0_2 l0_2.length l0_2) (hc0_2 : l0_2.length ≤ c0_2) (hr1 : Kd.C (Kd.slice 4 Kd.bool) w A1 l1.length l1) (hc1 : l1.length ≤ c1) (hr4 : Kd.C Kd.bool w A4 l4.length l4) (hc4 : l4.length ≤ c4) (h : spec_l18Behind.f k a0_0 l0_1 l0_2 l1 a2 a3 l4 = some r) :
 Calls Try.prog 157 #[.agg #[.int .i64 a0_0, .slice A0_1 l0_1.length c0_1, .slice A0_2 l0_2.length c0_2], .slice A1 l1.length c1, .int .i64 a2, .int .i64 a3, .slice A4 l4.length c4] w fun e w' => ∃ v0_ : Value, e = .returned (v0_) ∧ Kd.R Kd.bool 4 w' w.heap.size (fun _ => True) v0_ r ∧ Below w.heap.size w w' := by
 have hu1 := Try.underlying29
 have hu2 := Try.underlying87
 have hu3 := Try.underlying85
 have HR1 := Aside0.mk hr0_1
 have HR4 := Aside0.mk hr4
 have HRL := Aside0.mk hr1
 have HR2 := Aside0.mk hr0_2
 clear hr0_1 hr4 hr1 hr0_2
 unfold spec_l18Behind.f at h
 split at h
 case isFalse => cases h
 rename_i p2
 split at h
 case isFalse => cases h
 rename_i q2
 split at h
 case isFalse => cases h
 rename_i p3
 split at h
 case isFalse => cases h
 rename_i q3
 split at h
 case isFalse => cases h
 rename_i hn9
 obtain ⟨ad, A5, c5, e5, hx0, hl5, hi5⟩ := at_T85 HR2.out a2 p2 q2
 obtain ⟨is, his⟩ : ∃ is, is = (rd_T85 l0_2 a2).f0 := ⟨_, rfl⟩
 rw [← his] at h hx0 hl5 hi5 q3
 obtain ⟨ad7, A7, c7, e7, hy0, hy1, hy2, hy3, hy4, hy5, hy6, hy7, hl7, hi7⟩ := at_T87 hi5 a3 p3 q3
 obtain ⟨i, hi⟩ : ∃ i, i = rd_T87 is a3 := ⟨_, rfl⟩
 rw [← hi] at h hy0 hy1 hy2 hy3 hy4 hy5 hy6 hy7 hl7 hi7
 cases e5
 cases e7
 obtain ⟨g, hg, h⟩ := Option.bind_eq_some_iff.1 h
 obtain ⟨tg, htg, h⟩ := Option.bind_eq_some_iff.1 h
 obtain ⟨now, hnow⟩ : ∃ now, now = if g = true then l4 else List.replicate l4.length false := ⟨_, rfl⟩
 rw [← hnow] at h
 have hnl : now.length = l4.length := by rw [hnow]; split <;> simp
 have H := Aside0.mk h
 have HG := Aside0.mk hg
 have HTO := Aside0.mk htg
 have HNOW := Aside0.mk hnow
 have HNL := Aside0.mk hnl
 have HI7 := Aside0.mk hi7
 have HR5 := Aside0.mk hi5
 clear h hg htg hnow hnl hi7 hi5 his hi
 have BX := Aside0.mk (blk_new w (.cells #[.int .i64 a0_0, .slice A0_1 l0_1.length c0_1, .slice (some ad) l0_2.length c0_2] 29 (0, 0)))
 have b0 := (blk_cell BX.out 0).trans rfl
 have b1 := (blk_cell BX.out 1).trans rfl
 have b2 := (blk_cell BX.out 2).trans rfl
 have hbA := Aside0.mk (below_alloc (Below.refl w.heap.size w) (.cells #[.int .i64 a0_0, .slice A0_1 l0_1.length c0_1, .slice (some ad) l0_2.length c0_2] 29 (0, 0)))
 replace hx0 := (hbA.out.cell (World.block_lt_of_cell? w _ hx0)).trans hx0
 replace hy0 := (hbA.out.cell (World.block_lt_of_cell? w _ hy0)).trans hy0
 replace hy1 := (hbA.out.cell (World.block_lt_of_cell? w _ hy1)).trans hy1
 replace hy2 := (hbA.out.cell (World.block_lt_of_cell? w _ hy2)).trans hy2
 replace hy3 := (hbA.out.cell (World.block_lt_of_cell? w _ hy3)).trans hy3
 replace hy4 := (hbA.out.cell (World.block_lt_of_cell? w _ hy4)).trans hy4
 replace hy5 := (hbA.out.cell (World.block_lt_of_cell? w _ hy5)).trans hy5
 replace hy6 := (hbA.out.cell (World.block_lt_of_cell? w _ hy6)).trans hy6
 replace hy7 := (hbA.out.cell (World.block_lt_of_cell? w _ hy7)).trans hy7
 have e1 : (w.alloc (.cells #[.int .i64 a0_0, .slice A0_1 l0_1.length c0_1, .slice (some ad) l0_2.length c0_2] 29 (0, 0))).heap.size = w.heap.size + 1 := by simp
 have IX := Aside0.mk (blk_new (w.alloc (.cells #[.int .i64 a0_0, .slice A0_1 l0_1.length c0_1, .slice (some ad) l0_2.length c0_2] 29 (0, 0))) (.cells #[.int .i64 i.f0, .int .i64 i.f1, .int .i64 i.f2, .int .i64 i.f3, .int .i64 i.f4, .int .i64 i.f5, .string i.f6, .slice A7 i.f7.length c7] 87 (0, 0)))
 have BX2 := Aside0.mk (blk_alloc BX.out (.cells #[.int .i64 i.f0, .int .i64 i.f1, .int .i64 i.f2, .int .i64 i.f3, .int .i64 i.f4, .int .i64 i.f5, .string i.f6, .slice A7 i.f7.length c7] 87 (0, 0)))
 have hb2 := Aside0.mk (below_alloc hbA.out (.cells #[.int .i64 i.f0, .int .i64 i.f1, .int .i64 i.f2, .int .i64 i.f3, .int .i64 i.f4, .int .i64 i.f5, .string i.f6, .slice A7 i.f7.length c7] 87 (0, 0)))
 rw [e1] at IX
 have E1 := Aside0.mk e1
 clear e1
 go_enter Try.func157, Try.ntmps157
 go_upto_if 30 with (first | ((with_reducible refine gate_dst (N := 28) rfl ?_); refine Kd.R_make Kd.bool (w0 := ((w.alloc (.cells #[.int .i64 a0_0, .slice A0_1 l0_1.length c0_1, .slice (some ad) l0_2.length c0_2] 29 (0, 0))).alloc (.cells #[.int .i64 i.f0, .int .i64 i.f1, .int .i64 i.f2, .int .i64 i.f3, .int .i64 i.f4, .int .i64 i.f5, .string i.f6, .slice A7 i.f7.length c7] 87 (0, 0)))) ((w.alloc (.cells #[.int .i64 a0_0, .slice A0_1 l0_1.length c0_1, .slice (some ad) l0_2.length c0_2] 29 (0, 0))).alloc (.cells #[.int .i64 i.f0, .int .i64 i.f1, .int .i64 i.f2, .int .i64 i.f3, .int .i64 i.f4, .int .i64 i.f5, .string i.f6, .slice A7 i.f7.length c7] 87 (0, 0))).heap.size 4 rfl (N := 28) rfl 97 _ _ rfl (l4.length : Int) rfl rfl Try.underlying97 (.bool false) 1 info4 rfl (by decide) (by omega) false (ok := fun _ => True) (okp := fun _ => True) rfl (fun _ hk => hk) trivial (by omega) (by omega) (Below.refl _ _) (Nat.le_refl _) ?_; intro v3 w3 ho3 hb3 hg3 hnew3; rw [Int.toNat_natCast] at ho3; obtain ⟨A9, c9, e9⟩ := Kd.R_slice ho3; subst e9; rw [List.length_replicate] at ho3; have HO3 := Aside0.mk ho3; have HB3 := Aside0.mk hb3; have IX3 := Aside0.mk (blk_below IX.out hb3); clear ho3 hb3 hg3 hnew3; have z0 := (blk_cell IX3.out 0).trans rfl; have z1 := (blk_cell IX3.out 1).trans rfl; have z2 := (blk_cell IX3.out 2).trans rfl; have z3 := (blk_cell IX3.out 3).trans rfl; have z4 := (blk_cell IX3.out 4).trans rfl; have z5 := (blk_cell IX3.out 5).trans rfl; have z6 := (blk_cell IX3.out 6).trans rfl; have z7 := (blk_cell IX3.out 7).trans rfl) | (go_at_call 127; refine (spec_l18Goes.calls i.f0 i.f1 i.f2 i.f3 i.f4 i.f5 i.f6 A7 c7 i.f7 g _ (Kd.C_below HI7.out (by exact (below_step hb2.out HB3.out))) hl7 HG.out).mono ?_; rintro e w4 ⟨rfl, hb4⟩; have HB4 := Aside0.mk (below_step HB3.out hb4); have HO4 := Aside0.mk (Kd.R_below HO3.out hb4); clear hb4 z0 z1 z2 z3 z4 z5 z6 z7))
 go_cut [] (fun wc => Aside0 (Kd.R Kd.bool 4 wc ((w.alloc (.cells #[.int .i64 a0_0, .slice A0_1 l0_1.length c0_1, .slice (some ad) l0_2.length c0_2] 29 (0, 0))).alloc (.cells #[.int .i64 i.f0, .int .i64 i.f1, .int .i64 i.f2, .int .i64 i.f3, .int .i64 i.f4, .int .i64 i.f5, .string i.f6, .slice A7 i.f7.length c7] 87 (0, 0))).heap.size (fun _ => True) (.slice A9 l4.length c9) now) ∧ Aside0 (Below ((w.alloc (.cells #[.int .i64 a0_0, .slice A0_1 l0_1.length c0_1, .slice (some ad) l0_2.length c0_2] 29 (0, 0))).alloc (.cells #[.int .i64 i.f0, .int .i64 i.f1, .int .i64 i.f2, .int .i64 i.f3, .int .i64 i.f4, .int .i64 i.f5, .string i.f6, .slice A7 i.f7.length c7] 87 (0, 0))).heap.size ((w.alloc (.cells #[.int .i64 a0_0, .slice A0_1 l0_1.length c0_1, .slice (some ad) l0_2.length c0_2] 29 (0, 0))).alloc (.cells #[.int .i64 i.f0, .int .i64 i.f1, .int .i64 i.f2, .int .i64 i.f3, .int .i64 i.f4, .int .i64 i.f5, .string i.f6, .slice A7 i.f7.length c7] 87 (0, 0))) wc))
 case first =>
  cases g with
  | true =>
   have hn2 : now = l4 := HNOW.out
   go_wp2_with (first | (refine wpList_copy_R rfl _ _ 97 97 rfl 4 Try.underlying97 (by kernel_rfl) A9 A4 l4.length c9 c4 rfl rfl ((w.alloc (.cells #[.int .i64 a0_0, .slice A0_1 l0_1.length c0_1, .slice (some ad) l0_2.length c0_2] 29 (0, 0))).alloc (.cells #[.int .i64 i.f0, .int .i64 i.f1, .int .i64 i.f2, .int .i64 i.f3, .int .i64 i.f4, .int .i64 i.f5, .string i.f6, .slice A7 i.f7.length c7] 87 (0, 0))).heap.size (fun _ => True) (List.replicate l4.length false) l4 HO4.out (by simp) rfl (Kd.C_below HR4.out (below_step hb2.out HB4.out)) ((w.alloc (.cells #[.int .i64 a0_0, .slice A0_1 l0_1.length c0_1, .slice (some ad) l0_2.length c0_2] 29 (0, 0))).alloc (.cells #[.int .i64 i.f0, .int .i64 i.f1, .int .i64 i.f2, .int .i64 i.f3, .int .i64 i.f4, .int .i64 i.f5, .string i.f6, .slice A7 i.f7.length c7] 87 (0, 0))) HB4.out ?_; intro w5 ho5 hb5; have HO5 := Aside0.mk ho5; have HB5 := Aside0.mk hb5; clear ho5 hb5))
   go_meet
   case rel => exact ⟨⟨by rw [hn2]; exact HO5.out⟩, HB5⟩
  | false =>
   have hn2 : now = List.replicate l4.length false := HNOW.out
   go_wp2
   go_meet
   case rel => exact ⟨⟨by rw [hn2]; exact HO4.out⟩, HB4⟩
 case rest =>
  clear HB3 HO3 IX3 HB4 HO4 b0 b1 b2
  obtain ⟨HO, HB⟩ := hcut
  have BX3 := Aside0.mk (blk_below BX2.out HB.out)
  have IX3 := Aside0.mk (blk_below IX.out HB.out)
  have b0 := (blk_cell BX3.out 0).trans rfl
  have b1 := (blk_cell BX3.out 1).trans rfl
  have b2 := (blk_cell BX3.out 2).trans rfl
  have z0 := (blk_cell IX3.out 0).trans rfl
  have z1 := (blk_cell IX3.out 1).trans rfl
  have z2 := (blk_cell IX3.out 2).trans rfl
  have z3 := (blk_cell IX3.out 3).trans rfl
  have z4 := (blk_cell IX3.out 4).trans rfl
  have z5 := (blk_cell IX3.out 5).trans rfl
  have z6 := (blk_cell IX3.out 6).trans rfl
  have z7 := (blk_cell IX3.out 7).trans rfl
  go_wp2_with (first | (go_at_call 128; refine (spec_l18Jumps.calls a0_0 A0_1 c0_1 l0_1 (some ad) c0_2 l0_2 i.f0 i.f1 i.f2 i.f3 i.f4 i.f5 i.f6 A7 c7 i.f7 tg _ (Kd.C_below HR1.out (by exact (below_step hb2.out HB.out))) hc0_1 (Kd.C_below HR2.out (by exact (below_step hb2.out HB.out))) hc0_2 (Kd.C_below HI7.out (by exact (below_step hb2.out HB.out))) hl7 HTO.out).mono ?_; rintro e w6 ⟨rfl, hb6⟩; have HB6 := Aside0.mk (below_step HB.out hb6); have HO6 := Aside0.mk (Kd.R_below HO.out hb6); clear hb6 b0 b1 b2 z0 z1 z2 z3 z4 z5 z6 z7))
  by_cases c8 : 0 ≤ tg
  · have h := H.out
    rw [if_pos c8] at h
    split at h
    case isFalse => cases h
    rename_i q8
    split at h
    case isFalse => cases h
    rename_i q9
    obtain ⟨lv, hlv⟩ : ∃ lv, lv = l1.getD tg.toNat [] := ⟨_, rfl⟩
    rw [← hlv] at h q9
    obtain ⟨adl, cl, el, _, hKl, hcl⟩ := Kd.C_get HRL.out ([] : List Bool) tg c8 q8
    rw [← hlv] at hKl
    obtain ⟨A10, c10, rfl, hl10, hC10⟩ := hKl
    cases el
    have hx10 := hcl 0 _ rfl
    change w.cell? (adl.add (tg.toNat * 1 + 0)) = _ at hx10
    rw [Nat.mul_one, Nat.add_zero] at hx10
    have HX10 := Aside0.mk hx10
    have HC10 := Aside0.mk hC10
    have H2 := Aside0.mk (Option.some.inj h)
    have HCL := Aside0.mk hlv
    have c8b : decide (0 ≤ tg) = true := decide_eq_true c8
    clear h hx10 hC10 hcl hlv
    have HO7 := Aside0.mk (show Kd.R Kd.bool 4 w6 ((w.alloc (.cells #[.int .i64 a0_0, .slice A0_1 l0_1.length c0_1, .slice (some ad) l0_2.length c0_2] 29 (0, 0))).alloc (.cells #[.int .i64 i.f0, .int .i64 i.f1, .int .i64 i.f2, .int .i64 i.f3, .int .i64 i.f4, .int .i64 i.f5, .string i.f6, .slice A7 i.f7.length c7] 87 (0, 0))).heap.size (fun _ => True) (.slice A9 l4.length c9) (orTo 0 now lv) from by rw [orTo_zero]; exact HO6.out)
    go_wp2
    go_loopw [15] (fun v wr => ∃ (m : Nat), m ≤ l4.length ∧ v = .int .i64 (m : Int) ∧ Aside0 (Kd.R Kd.bool 4 wr ((w.alloc (.cells #[.int .i64 a0_0, .slice A0_1 l0_1.length c0_1, .slice (some ad) l0_2.length c0_2] 29 (0, 0))).alloc (.cells #[.int .i64 i.f0, .int .i64 i.f1, .int .i64 i.f2, .int .i64 i.f3, .int .i64 i.f4, .int .i64 i.f5, .string i.f6, .slice A7 i.f7.length c7] 87 (0, 0))).heap.size (fun _ => True) (.slice A9 l4.length c9) (orTo m now lv)) ∧ Aside0 (Below ((w.alloc (.cells #[.int .i64 a0_0, .slice A0_1 l0_1.length c0_1, .slice (some ad) l0_2.length c0_2] 29 (0, 0))).alloc (.cells #[.int .i64 i.f0, .int .i64 i.f1, .int .i64 i.f2, .int .i64 i.f3, .int .i64 i.f4, .int .i64 i.f5, .string i.f6, .slice A7 i.f7.length c7] 87 (0, 0))).heap.size ((w.alloc (.cells #[.int .i64 a0_0, .slice A0_1 l0_1.length c0_1, .slice (some ad) l0_2.length c0_2] 29 (0, 0))).alloc (.cells #[.int .i64 i.f0, .int .i64 i.f1, .int .i64 i.f2, .int .i64 i.f3, .int .i64 i.f4, .int .i64 i.f5, .string i.f6, .slice A7 i.f7.length c7] 87 (0, 0))) wr)) (fun v _ => l4.length - (intOf v).toNat)
    case atStart => exact ⟨0, Nat.zero_le _, rfl, HO7, HB6⟩
    case round =>
     clear HO7 HB6 HO6 HO BX3 IX3 HB
     obtain ⟨m, hm, rfl, HO, HB⟩ := hrel
     have hol : (orTo m now lv).length = l4.length := (orTo_len m now lv).trans HNL.out
     by_cases hlm : m < l4.length
     · obtain ⟨g9, cap9, e9, hg9, _, _⟩ := Kd.R_form HO.out (by omega)
       injection e9 with e9 e10 e11
       subst e9
       obtain ⟨cn, zn⟩ := Kd.R_celln false HO.out (m : Int) (by omega) (by omega)
       obtain ⟨x, hx⟩ : ∃ x, x = (orTo m now lv).getD m false := ⟨_, rfl⟩
       have hrx : rdOf false (orTo m now lv) (m : Int) = x := by rw [hx]; simp [rdOf, List.getD_eq_getElem?_getD]
       rw [hrx, Int.toNat_natCast] at cn
       rw [Int.toNat_natCast] at zn
       have hsc : (orTo m now lv).set m (x || lv.getD m false) = orTo (m + 1) now lv := by rw [hx]; exact orTo_succ m now lv (by rw [HNL.out]; exact hlm)
       have HSC := Aside0.mk hsc
       have HOL := Aside0.mk hol
       have hwB := below_step hb2.out HB.out
       clear hx hrx hsc e10 e11 hol
       cases x with
       | true =>
        have hp := Kd.R_putn HO.out (m : Int) true
        rw [Int.toNat_natCast, show (orTo m now lv).set m true = orTo (m + 1) now lv from by rw [← HSC.out]; simp] at hp
        have HP := Aside0.mk hp
        clear hp
        have HB9 := Aside0.mk (HB.out.setCell (p := ⟨g9, m, none⟩) hg9 (.bool true))
        clear hwB
        go_wp2
        go_roundw
        case measure => simp [intOf]; omega
        case rel => exact ⟨m + 1, by omega, by go_num, HP, HB9⟩
       | false =>
        obtain ⟨ad11, cl11, el11, _, hK11, hc11⟩ := Kd.C_get HC10.out false (m : Int) (by omega) (by omega)
        rw [Int.toNat_natCast] at hK11 hc11
        obtain ⟨y, hy⟩ : ∃ y, y = lv.getD m false := ⟨_, rfl⟩
        rw [← hy] at hK11
        have hK12 : cl11 = [Value.bool y] := hK11
        subst hK12
        have hx11 := hc11 0 _ rfl
        change w.cell? (ad11.add (m * 1 + 0)) = _ at hx11
        rw [Nat.mul_one, Nat.add_zero] at hx11
        have hx12 := (hwB.cell (World.block_lt_of_cell? w _ hx11)).trans hx11
        have hx13 := (hwB.cell (World.block_lt_of_cell? w _ HX10.out)).trans HX10.out
        have hq11 : (m : Int) < (lv.length : Int) := by omega
        have hp := Kd.R_putn HO.out (m : Int) y
        rw [Int.toNat_natCast, show (orTo m now lv).set m y = orTo (m + 1) now lv from by rw [← HSC.out, hy]; simp] at hp
        have HP := Aside0.mk hp
        clear hp
        have HB9 := Aside0.mk (HB.out.setCell (p := ⟨g9, m, none⟩) hg9 (.bool y))
        have HY := Aside0.mk hy
        subst el11
        clear hK11 hc11 hx11 hwB hy
        go_wp2
        go_roundw
        case measure => simp [intOf]; omega
        case rel => exact ⟨m + 1, by omega, by go_num, HP, HB9⟩
     · have hme : m = l4.length := by omega
       subst hme
       go_wp2
       go_ret
       exact ⟨_, rfl, by rw [← H2.out]; exact Kd.R_lower HO.out hb2.out.size, below_step hb2.out HB.out⟩
  · have h := H.out
    rw [if_neg c8] at h
    obtain rfl := Option.some.inj h
    have c8b : decide (0 ≤ tg) = false := decide_eq_false c8
    refine wp_loop_rounds 1 ?_
    rw [rounds_succ]
    go_wp2
    all_goals (go_ret; exact ⟨_, rfl, Kd.R_lower HO6.out hb2.out.size, below_step hb2.out HB6.out⟩)

set_option linter.unusedVariables false
set_option linter.unusedSimpArgs false

def spec_l18Block.l0 : Nat → List (List Bool) → Int → List Bool → Int → Int → List Int → List (S85) → Option (List Bool)
 | 0, _, _, _, _, _, _, _ => none
 | k + 1, x1, x2, x9, x10, x363000, x363001, x363002 => if x10 ≥ 0 then (if 0 ≤ x2 then (if x2 < (x363002.length : Int) then (if 0 ≤ x10 then (if x10 < (((rd_T85 x363002 x2).f0).length : Int) then ((spec_l18Behind.f k x363000 x363001 x363002 x1 x2 x10 x9).bind fun t369 => ((spec_l18Ahead.f k ((rd_T87 ((rd_T85 x363002 x2).f0) x10).f0) ((rd_T87 ((rd_T85 x363002 x2).f0) x10).f1) ((rd_T87 ((rd_T85 x363002 x2).f0) x10).f2) ((rd_T87 ((rd_T85 x363002 x2).f0) x10).f3) ((rd_T87 ((rd_T85 x363002 x2).f0) x10).f4) ((rd_T87 ((rd_T85 x363002 x2).f0) x10).f5) ((rd_T87 ((rd_T85 x363002 x2).f0) x10).f6) ((rd_T87 ((rd_T85 x363002 x2).f0) x10).f7) t369).bind fun t372 => (spec_l18Block.l0 k x1 x2 t372 (wrap64 (x10 - 1)) x363000 x363001 x363002))) else (none)) else (none)) else (none)) else (none)) else (some x9)
def spec_l18Block.f (k : Nat) (a0_0 : Int) (l0_1 : List Int) (l0_2 : List (S85)) (l1 : List (List Bool)) (a2 : Int) (a3 : Int) : Option (List Bool) := if 0 ≤ a3 then (if (a3 : Int).toNat ≤ 281474976710656 then (if 0 ≤ a2 then (if a2 < (l0_2.length : Int) then (spec_l18Block.l0 k l1 a2 (List.replicate (a3 : Int).toNat false) (wrap64 ((((rd_T85 l0_2 a2).f0).length : Int) - 1)) a0_0 l0_1 l0_2) else (none)) else (none)) else (none)) else (none)
def spec_l18Block.T5 : Bool × List (List Nat × List Nat) := (true, [([], []), ([0], [0]), ([], []), ([1, 2], [1, 2]), ([3], [3]), ([4], [4]), ([], []), ([5, 6], [5, 6]), ([7], [7]), ([], []), ([], []), ([], []), ([], []), ([], []), ([9, 10, 11, 12, 13], [9, 10, 11, 12, 13]), ([8, 14, 14], [8, 14]), ([15, 15, 0, 1, 2, 3, 4, 5, 6, 7, 8, 9, 10, 11, 12, 13, 14, 15], [13, 15])])
def spec_l18Block.B5 : List Nat := [0, 1, 0, 7, 15, 31, 0, 127, 255, 0, 0, 0, 0, 0, 15872, 32767, 65535]
theorem spec_l18Block.tab5 : rtab .any (opsOf Try.f122 5) = spec_l18Block.T5 := by kernel_rfl
theorem spec_l18Block.bits5 : waitsOk spec_l18Block.T5.2 spec_l18Block.B5 = true := by kernel_rfl
set_option maxHeartbeats 8000000 in
set_option maxRecDepth 100000 in
theorem spec_l18Block.calls (k : Nat) (a0_0 : Int) (A0_1 : Option Addr) (c0_1 : Nat) (l0_1 : List Int) (A0_2 : Option Addr) (c0_2 : Nat) (l0_2 : List (S85)) (A1 : Option Addr) (c1 : Nat) (l1 : List (List Bool)) (a2 : Int) (a3 : Int) (r : List Bool) (w : World) (hr0_1 : Kd.C (Kd.int .i64) w A0_1 l0_1.length l0_1) (hc0_1 : l0_1.length ≤ c0_1) (hr0_2 : Kd.C k85 w A0_2 l0_2.length l0_2) (hc0_2 : l0_2.length ≤ c0_2) (hr1 : Kd.C (Kd.slice 4 Kd.bool) w A1 l1.length l1) (hc1 : l1.length ≤ c1) (h : spec_l18Block.f k a0_0 l0_1 l0_2 l1 a2 a3 = some r) :
 Calls Try.prog 122 #[.agg #[.int .i64 a0_0, .slice A0_1 l0_1.length c0_1, .slice A0_2 l0_2.length c0_2], .slice A1 l1.length c1, .int .i64 a2, .int .i64 a3] w fun e w' => ∃ v0_ : Value, e = .returned (v0_) ∧ Kd.R Kd.bool 4 w' w.heap.size (fun _ => True) v0_ r ∧ Below w.heap.size w w' := by
 have hu29 := Try.underlying29
 have hu87 := Try.underlying87
 have HR0_1 := Aside0.mk hr0_1
 have HC0_1 := Aside0.mk hc0_1
 clear hr0_1 hc0_1
 have HR0_2 := Aside0.mk hr0_2
 have HC0_2 := Aside0.mk hc0_2
 clear hr0_2 hc0_2
 have HR1 := Aside0.mk hr1
 have HC1 := Aside0.mk hc1
 clear hr1 hc1
 have HB := Aside0.mk (Below.refl w.heap.size w)
 have H : (if 0 ≤ a3 then (if (a3 : Int).toNat ≤ 281474976710656 then (if 0 ≤ a2 then (if a2 < (l0_2.length : Int) then (spec_l18Block.l0 k l1 a2 (List.replicate (a3 : Int).toNat false) (wrap64 ((((rd_T85 l0_2 a2).f0).length : Int) - 1)) a0_0 l0_1 l0_2) else (none)) else (none)) else (none)) else (none)) = some r := h
 clear h
 by_cases c5 : 0 ≤ a3
 · rw [if_pos c5] at H
   have c5b0 := eq_true c5
   have c5b1 : decide (0 ≤ a3) = true := decide_eq_true c5
   clear c5
   by_cases c6 : (a3 : Int).toNat ≤ 281474976710656
   · rw [if_pos c6] at H
     have c6b0 := eq_true c6
     have c6b1 : decide ((a3 : Int).toNat ≤ 281474976710656) = true := decide_eq_true c6
     clear c6
     obtain ⟨y363, hy363⟩ : ∃ y_ : List Bool, y_ = (List.replicate (a3 : Int).toNat false) := ⟨_, rfl⟩
     replace H : (if 0 ≤ a2 then (if a2 < (l0_2.length : Int) then (spec_l18Block.l0 k l1 a2 y363 (wrap64 ((((rd_T85 l0_2 a2).f0).length : Int) - 1)) a0_0 l0_1 l0_2) else (none)) else (none)) = some r := by first | (rw [hy363]; with_reducible exact H) | (have H2_ := (Option.bind_some _ _).symm.trans H; rw [hy363]; with_reducible exact H2_) | (have H2_ := (Option.bind_some _ _).symm.trans H; with_reducible exact H2_) | with_reducible exact H | (rw [hy363]; exact H) | exact H
     have Ny363 := Aside0.mk hy363
     clear hy363
     by_cases c7 : 0 ≤ a2
     · rw [if_pos c7] at H
       have c7b0 : decide (0 ≤ a2) = true := decide_eq_true c7
       clear c7
       by_cases c8 : a2 < (l0_2.length : Int)
       · rw [if_pos c8] at H
         have c8b0 : decide (a2 < (l0_2.length : Int)) = true := decide_eq_true c8
         clear c8
         have H' := Aside0.mk H
         clear H
         go_enter Try.func122, Try.ntmps122
         go_wp2_with (first | ((with_reducible refine gate_dst (N := 4) rfl ?_); refine box_event ?hg (N := 4) ?hd (cs := #[.int .i64 a0_0, .slice A0_1 l0_1.length c0_1, .slice A0_2 l0_2.length c0_2]) (t := 29) ?hr ?_; (case hd => rfl); (case hg => rfl); (case hr => first | (go_simp; done) | (go_simp; rfl)); intro gb362 hg w9 hbox hb; have n0_ := Aside0.mk (below_step bz hb); have n1_ := Aside0.mk (hbox); have n2_ := Aside0.mk ((by rw [hg]; exact (below_size bz) : w.heap.size ≤ gb362)); have n3_ := Aside0.mk ((by rw [hg]; exact (below_size bz) : w.heap.size ≤ gb362)); clear HB; have HB := n0_; have BK362 := n1_; have GW362 := n2_; have GE362 := n3_; clear n0_ n1_ n2_ n3_; clear hb hbox hg) | ((with_reducible refine gate_dst (N := 12) rfl ?_); refine Kd.R_make Kd.bool _ 4 rfl (N := 12) rfl 97 _ _ rfl a3 rfl rfl Try.underlying97 (.bool false) 1 info4 rfl (by decide) (by omega) false (ok := fun _ => True) (okp := fun _ => True) rfl (fun _ hk => hk) trivial (of_decide_eq_true az) (Nat.le_trans (Nat.mul_le_mul_right _ (of_decide_eq_true az : a3.toNat ≤ 281474976710656)) (by omega)) (Below.refl _ _) (Nat.le_refl _) ?_; intro v364 w10 ho11 hb hg_ hnew_; clear hg_ hnew_; (first | rw [← Ny363.out] at ho11 | (simp only [Int.reduceToNat] at ho11; rw [← Ny363.out] at ho11)); have n0_ := Aside0.mk (Kd.R_lower ho11 (below_size bz)); have n1_ := Aside0.mk (blk_below (g := gb362) (o := .cells #[.int .i64 a0_0, .slice A0_1 l0_1.length c0_1, .slice A0_2 l0_2.length c0_2] 29 (0, 0)) kz hb); have n2_ := Aside0.mk (below_step bz hb); clear BK362; clear HB; have HO365 := n0_; have BK362 := n1_; have HB := n2_; clear n0_ n1_ n2_; clear hb ho11; have hcz12_0 : w10.cell? ⟨gb362, 0, none⟩ = some (.int .i64 a0_0) := (blk_cell BK362.out 0).trans rfl; have hcz12_1 : w10.cell? ⟨gb362, 1, none⟩ = some (.slice A0_1 l0_1.length c0_1) := (blk_cell BK362.out 1).trans rfl; have hcz12_2 : w10.cell? ⟨gb362, 2, none⟩ = some (.slice A0_2 l0_2.length c0_2) := (blk_cell BK362.out 2).trans rfl; have hfz12_0 := blk_frozen BK362.out 0; have hfz12_1 := blk_frozen BK362.out 1; have hfz12_2 := blk_frozen BK362.out 2; have p366 : 0 ≤ (a2 : Int) := of_decide_eq_true az; have q366 : a2 < (l0_2.length : Int) := of_decide_eq_true az; obtain ⟨ad366, A366_0, c366_0, e366, hx366_0, hl366_0, hi366_0⟩ := at_T85 HR0_2.out a2 p366 q366; cases e366; replace hx366_0 := (HB.out.cell (World.block_lt_of_cell? w _ hx366_0)).trans hx366_0; have HR366_0 := Aside0.mk hi366_0; have HC366_0 := Aside0.mk hl366_0; clear hi366_0 hl366_0; replace p366 := eq_true p366; replace q366 := eq_true q366))
         go_loopg [9, 10] k (fun kq v9 v10 w' => ∃ (x9_1 : List Bool) (x10_1 : Int), v10 = .int .i64 x10_1 ∧ Aside0 (spec_l18Block.l0 kq l1 a2 x9_1 x10_1 a0_0 l0_1 l0_2 = some r) ∧ Aside0 (kq ≤ k) ∧ Aside0 (Kd.R Kd.bool 4 w' w.heap.size (fun _ => True) v9 x9_1) ∧ Aside0 (w'.heap[gb362]? = some (.cells #[.int .i64 a0_0, (.slice A0_1 l0_1.length c0_1), (.slice (some ad366) l0_2.length c0_2)] 29 (0, 0))) ∧ Aside0 (Below w.heap.size w w'))
         case atStart => exact ⟨(y363), (wrap64 ((((rd_T85 l0_2 a2).f0).length : Int) - 1)), sz_, H', ⟨Nat.le_refl _⟩, ⟨by (with_reducible repeat (first | apply Kd.R_alloc | apply Kd.R_drewN | apply Kd.R_drew)); exact HO365.out⟩, ⟨ kz⟩, ⟨ bz⟩⟩
         case round =>
          clear H'
          obtain ⟨x9_1, x10_1, rfl, HA, HK1, HO_9, BK362, HB⟩ := hrel
          cases gk with
          | zero => exact absurd HA.out (by simp [spec_l18Block.l0])
          | succ k1 =>
           have H := HA.out
           clear HA
           simp only [spec_l18Block.l0] at H
           by_cases c13 : x10_1 ≥ 0
           · rw [if_pos c13] at H
             have c13b0 : decide (0 ≤ x10_1) = true := decide_eq_true c13
             clear c13
             by_cases c14 : 0 ≤ a2
             · rw [if_pos c14] at H
               have c14b0 : decide (0 ≤ a2) = true := decide_eq_true c14
               clear c14
               by_cases c15 : a2 < (l0_2.length : Int)
               · rw [if_pos c15] at H
                 have c15b0 : decide (a2 < (l0_2.length : Int)) = true := decide_eq_true c15
                 clear c15
                 by_cases c16 : 0 ≤ x10_1
                 · rw [if_pos c16] at H
                   have c16b0 : decide (0 ≤ x10_1) = true := decide_eq_true c16
                   clear c16
                   by_cases c17 : x10_1 < (((rd_T85 l0_2 a2).f0).length : Int)
                   · rw [if_pos c17] at H
                     have c17b0 : decide (x10_1 < (((rd_T85 l0_2 a2).f0).length : Int)) = true := decide_eq_true c17
                     clear c17
                     replace H := Option.bind_eq_some_iff.mp H
                     obtain ⟨t369, A180, H⟩ := H
                     replace H : ((spec_l18Ahead.f k1 ((rd_T87 ((rd_T85 l0_2 a2).f0) x10_1).f0) ((rd_T87 ((rd_T85 l0_2 a2).f0) x10_1).f1) ((rd_T87 ((rd_T85 l0_2 a2).f0) x10_1).f2) ((rd_T87 ((rd_T85 l0_2 a2).f0) x10_1).f3) ((rd_T87 ((rd_T85 l0_2 a2).f0) x10_1).f4) ((rd_T87 ((rd_T85 l0_2 a2).f0) x10_1).f5) ((rd_T87 ((rd_T85 l0_2 a2).f0) x10_1).f6) ((rd_T87 ((rd_T85 l0_2 a2).f0) x10_1).f7) t369).bind fun t372 => (spec_l18Block.l0 k1 l1 a2 t372 (wrap64 (x10_1 - 1)) a0_0 l0_1 l0_2)) = some r := H
                     have A18 := Aside0.mk A180
                     clear A180
                     replace H := Option.bind_eq_some_iff.mp H
                     obtain ⟨t372, A190, H⟩ := H
                     replace H : (spec_l18Block.l0 k1 l1 a2 t372 (wrap64 (x10_1 - 1)) a0_0 l0_1 l0_2) = some r := H
                     have A19 := Aside0.mk A190
                     clear A190
                     have H' := Aside0.mk H
                     clear H
                     try go_wp2
                     have n0_ := Aside0.mk (Kd.R_drew HO_9.out)
                     have n1_ := Aside0.mk (blk_drew BK362.out)
                     have n2_ := Aside0.mk (below_drew1 HB.out)
                     clear HO_9
                     clear BK362
                     clear HB
                     have HO_9 := n0_
                     have BK362 := n1_
                     have HB := n2_
                     clear n0_ n1_ n2_
                     have p367 : 0 ≤ (a2 : Int) := of_decide_eq_true az
                     have q367 : a2 < (l0_2.length : Int) := of_decide_eq_true az
                     obtain ⟨ad367, A367_0, c367_0, e367, hx367_0, hl367_0, hi367_0⟩ := at_T85 HR0_2.out a2 p367 q367
                     have hw367_0 := hx367_0
                     obtain rfl : ad366 = ad367 := (by injection e367)
                     replace hx367_0 := ck HB hx367_0
                     have HR367_0 := Aside0.mk hi367_0
                     have HC367_0 := Aside0.mk hl367_0
                     clear hi367_0 hl367_0
                     replace p367 := eq_true p367
                     replace q367 := eq_true q367
                     have p368 : 0 ≤ (x10_1 : Int) := of_decide_eq_true az
                     have q368 : x10_1 < (((rd_T85 l0_2 a2).f0).length : Int) := of_decide_eq_true az
                     obtain ⟨ad368, A368_7, c368_7, e368, hx368_0, hx368_1, hx368_2, hx368_3, hx368_4, hx368_5, hx368_6, hx368_7, hl368_7, hi368_7⟩ := at_T87 HR367_0.out x10_1 p368 q368
                     have hw368_7 := hx368_7
                     have hw368_6 := hx368_6
                     have hw368_5 := hx368_5
                     have hw368_4 := hx368_4
                     have hw368_3 := hx368_3
                     have hw368_2 := hx368_2
                     have hw368_1 := hx368_1
                     have hw368_0 := hx368_0
                     cases e368
                     replace hx368_0 := ck HB hx368_0
                     replace hx368_1 := ck HB hx368_1
                     replace hx368_2 := ck HB hx368_2
                     replace hx368_3 := ck HB hx368_3
                     replace hx368_4 := ck HB hx368_4
                     replace hx368_5 := ck HB hx368_5
                     replace hx368_6 := ck HB hx368_6
                     replace hx368_7 := ck HB hx368_7
                     have HR368_7 := Aside0.mk hi368_7
                     have HC368_7 := Aside0.mk hl368_7
                     clear hi368_7 hl368_7
                     replace p368 := eq_true p368
                     replace q368 := eq_true q368
                     obtain ⟨Ao21, co21, eo21⟩ := Kd.R_slice HO_9.out
                     (first | subst eo21 | (injection eo21 with f1_ f2_ f3_; have f4_ := f1_.symm; have f5_ := f3_.symm; clear f1_ f2_ f3_; subst f4_; subst f5_))
                     refine start_ (n := 17) (S := fun w' => w'.cell? ⟨gb362, 0, none⟩ = some (.int .i64 a0_0) ∧ w'.cell? ⟨gb362, 1, none⟩ = some (.slice A0_1 l0_1.length c0_1) ∧ w'.cell? ⟨gb362, 2, none⟩ = some (.slice (some ad366) l0_2.length c0_2) ∧ w'.cell? (ad366.add (a2).toNat) = some (.slice (some ad368) ((rd_T85 l0_2 a2).f0).length c367_0) ∧ w'.cell? (ad368.add ((x10_1).toNat * 8)) = some (.int .i64 ((rd_T87 ((rd_T85 l0_2 a2).f0) x10_1).f0)) ∧ w'.cell? ⟨(ad368.add ((x10_1).toNat * 8)).block, (ad368.add ((x10_1).toNat * 8)).off + 1, none⟩ = some (.int .i64 ((rd_T87 ((rd_T85 l0_2 a2).f0) x10_1).f1)) ∧ w'.cell? ⟨(ad368.add ((x10_1).toNat * 8)).block, (ad368.add ((x10_1).toNat * 8)).off + 2, none⟩ = some (.int .i64 ((rd_T87 ((rd_T85 l0_2 a2).f0) x10_1).f2)) ∧ w'.cell? ⟨(ad368.add ((x10_1).toNat * 8)).block, (ad368.add ((x10_1).toNat * 8)).off + 3, none⟩ = some (.int .i64 ((rd_T87 ((rd_T85 l0_2 a2).f0) x10_1).f3)) ∧ w'.cell? ⟨(ad368.add ((x10_1).toNat * 8)).block, (ad368.add ((x10_1).toNat * 8)).off + 4, none⟩ = some (.int .i64 ((rd_T87 ((rd_T85 l0_2 a2).f0) x10_1).f4)) ∧ w'.cell? ⟨(ad368.add ((x10_1).toNat * 8)).block, (ad368.add ((x10_1).toNat * 8)).off + 5, none⟩ = some (.int .i64 ((rd_T87 ((rd_T85 l0_2 a2).f0) x10_1).f5)) ∧ w'.cell? ⟨(ad368.add ((x10_1).toNat * 8)).block, (ad368.add ((x10_1).toNat * 8)).off + 6, none⟩ = some (.string ((rd_T87 ((rd_T85 l0_2 a2).f0) x10_1).f6)) ∧ w'.cell? ⟨(ad368.add ((x10_1).toNat * 8)).block, (ad368.add ((x10_1).toNat * 8)).off + 7, none⟩ = some (.slice A368_7 ((rd_T87 ((rd_T85 l0_2 a2).f0) x10_1).f7).length c368_7)) (ds := []) #[false, false, false, false, false, false, false, false, false, false, false, false, false, false, false, false, false] (by kernel_rfl) rfl rfl ⟨(blk_cell BK362.out 0).trans rfl, (blk_cell BK362.out 1).trans rfl, (blk_cell BK362.out 2).trans rfl, (ck HB hw367_0), (ck HB hw368_0), (ck HB hw368_1), (ck HB hw368_2), (ck HB hw368_3), (ck HB hw368_4), (ck HB hw368_5), (ck HB hw368_6), (ck HB hw368_7)⟩ (fun hHeld => ?_); refine with_tabW spec_l18Block.tab5 spec_l18Block.bits5 (fun HT_ HW_ => ?_)
                     generalize wr.drew = w20 at HO_9 BK362 HB HR367_0 HR368_7 hx367_0 hx368_0 hx368_1 hx368_2 hx368_3 hx368_4 hx368_5 hx368_6 hx368_7 hHeld ⊢
                     refine pure_ (i := 0) (N := some 25) (v := ?_) (a' := ?_) #[true, false, false, false, false, false, false, false, false, false, false, false, false, false, false, false, false] rfl rfl (any_of HT_.out (by kernel_rfl)) (fun _ _ _ h => h) (Or.inl ⟨by rfl, ?_⟩) ?_ ?_
                     rotate_left
                     · intro w'
                       go_simp
                       with_reducible rfl
                     rotate_left
                     · simp only [Act.put, sx1, sx2, sx3, i64_w, i32_w]
                       rfl
                     refine pure_ (i := 2) (N := some 27) (v := ?_) (a' := ?_) #[true, false, true, false, false, false, false, false, false, false, false, false, false, false, false, false, false] rfl rfl (any_of HT_.out (by kernel_rfl)) (fun _ _ _ h => h) (Or.inl ⟨by rfl, ?_⟩) ?_ ?_
                     rotate_left
                     · intro w'
                       go_simp
                       with_reducible rfl
                     rotate_left
                     · simp only [Act.put, sx1, sx2, sx3, i64_w, i32_w]
                       rfl
                     refine pure_ (i := 6) (N := some 31) (v := ?_) (a' := ?_) #[true, false, true, false, false, false, true, false, false, false, false, false, false, false, false, false, false] rfl rfl (any_of HT_.out (by kernel_rfl)) (fun _ _ _ h => h) (Or.inl ⟨by rfl, ?_⟩) ?_ ?_
                     rotate_left
                     · intro w'
                       go_simp
                       with_reducible rfl
                     rotate_left
                     · simp only [Act.put, sx1, sx2, sx3, i64_w, i32_w]
                       rfl
                     refine pure_ (i := 10) (N := some 35) (v := ?_) (a' := ?_) #[true, false, true, false, false, false, true, false, false, false, true, false, false, false, false, false, false] rfl rfl (any_of HT_.out (by kernel_rfl)) (fun _ _ _ h => h) (Or.inl ⟨by rfl, ?_⟩) ?_ ?_
                     rotate_left
                     · intro w'
                       go_simp
                       with_reducible rfl
                     rotate_left
                     · simp only [Act.put, sx1, sx2, sx3, i64_w, i32_w]
                       rfl
                     refine pure_ (i := 11) (N := some 36) (v := ?_) (a' := ?_) #[true, false, true, false, false, false, true, false, false, false, true, true, false, false, false, false, false] rfl rfl (any_of HT_.out (by kernel_rfl)) (fun _ _ _ h => h) (Or.inl ⟨by rfl, ?_⟩) ?_ ?_
                     rotate_left
                     · intro w'
                       go_simp
                       with_reducible rfl
                     rotate_left
                     · simp only [Act.put, sx1, sx2, sx3, i64_w, i32_w]
                       rfl
                     refine pure_ (i := 12) (N := some 37) (v := ?_) (a' := ?_) #[true, false, true, false, false, false, true, false, false, false, true, true, true, false, false, false, false] rfl rfl (any_of HT_.out (by kernel_rfl)) (fun _ _ _ h => h) (Or.inl ⟨by rfl, ?_⟩) ?_ ?_
                     rotate_left
                     · intro w'
                       go_simp
                       with_reducible rfl
                     rotate_left
                     · simp only [Act.put, sx1, sx2, sx3, i64_w, i32_w]
                       rfl
                     refine pure_ (i := 13) (N := some 38) (v := ?_) (a' := ?_) #[true, false, true, false, false, false, true, false, false, false, true, true, true, true, false, false, false] rfl rfl (any_of HT_.out (by kernel_rfl)) (fun _ _ _ h => h) (Or.inl ⟨by rfl, ?_⟩) ?_ ?_
                     rotate_left
                     · intro w'
                       go_simp
                       with_reducible rfl
                     rotate_left
                     · simp only [Act.put, sx1, sx2, sx3, i64_w, i32_w]
                       rfl
                     refine take_ (i := 1) (N := some 26) (v := ?_) (a' := ?_) #[true, true, true, false, false, false, true, false, false, false, true, true, true, true, false, false, false] rfl rfl (take_ofW HT_.out HW_.out (by kernel_rfl)) (fun _ _ _ h => h) (Or.inl ⟨by rfl, ?_⟩) hHeld ?_ ?_
                     rotate_left
                     · rintro w' ⟨s0, s1, s2, s3, s4, s5, s6, s7, s8, s9, s10, s11⟩
                       go_simp
                       with_reducible rfl
                     rotate_left
                     · simp only [Act.put, sx1, sx2, sx3, i64_w, i32_w]
                       rfl
                     refine pure_ (i := 3) (N := some 28) (v := ?_) (a' := ?_) #[true, true, true, true, false, false, true, false, false, false, true, true, true, true, false, false, false] rfl rfl (any_of HT_.out (by kernel_rfl)) (fun _ _ _ h => h) (Or.inl ⟨by rfl, ?_⟩) ?_ ?_
                     rotate_left
                     · intro w'
                       go_simp
                       with_reducible rfl
                     rotate_left
                     · simp only [Act.put, sx1, sx2, sx3, i64_w, i32_w]
                       rfl
                     refine pure_ (i := 4) (N := some 29) (v := ?_) (a' := ?_) #[true, true, true, true, true, false, true, false, false, false, true, true, true, true, false, false, false] rfl rfl (any_of HT_.out (by kernel_rfl)) (fun _ _ _ h => h) (Or.inl ⟨by rfl, ?_⟩) ?_ ?_
                     rotate_left
                     · intro w'
                       go_simp
                       with_reducible rfl
                     rotate_left
                     · simp only [Act.put, sx1, sx2, sx3, i64_w, i32_w]
                       rfl
                     refine take_ (i := 5) (N := some 30) (v := ?_) (a' := ?_) #[true, true, true, true, true, true, true, false, false, false, true, true, true, true, false, false, false] rfl rfl (take_ofW HT_.out HW_.out (by kernel_rfl)) (fun _ _ _ h => h) (Or.inl ⟨by rfl, ?_⟩) hHeld ?_ ?_
                     rotate_left
                     · rintro w' ⟨s0, s1, s2, s3, s4, s5, s6, s7, s8, s9, s10, s11⟩
                       go_simp
                       with_reducible rfl
                     rotate_left
                     · simp only [Act.put, sx1, sx2, sx3, i64_w, i32_w]
                       rfl
                     refine pure_ (i := 7) (N := some 32) (v := ?_) (a' := ?_) #[true, true, true, true, true, true, true, true, false, false, true, true, true, true, false, false, false] rfl rfl (any_of HT_.out (by kernel_rfl)) (fun _ _ _ h => h) (Or.inl ⟨by rfl, ?_⟩) ?_ ?_
                     rotate_left
                     · intro w'
                       go_simp
                       with_reducible rfl
                     rotate_left
                     · simp only [Act.put, sx1, sx2, sx3, i64_w, i32_w]
                       rfl
                     refine take_ (i := 8) (N := some 33) (v := ?_) (a' := ?_) #[true, true, true, true, true, true, true, true, true, false, true, true, true, true, false, false, false] rfl rfl (take_ofW HT_.out HW_.out (by kernel_rfl)) (fun _ _ _ h => h) (Or.inl ⟨by rfl, ?_⟩) hHeld ?_ ?_
                     rotate_left
                     · rintro w' ⟨s0, s1, s2, s3, s4, s5, s6, s7, s8, s9, s10, s11⟩
                       go_simp
                       with_reducible rfl
                     rotate_left
                     · simp only [Act.put, sx1, sx2, sx3, i64_w, i32_w]
                       rfl
                     refine take_ (i := 9) (N := some 34) (v := ?_) (a' := ?_) #[true, true, true, true, true, true, true, true, true, true, true, true, true, true, false, false, false] rfl rfl (take_ofW HT_.out HW_.out (by kernel_rfl)) (fun _ _ _ h => h) (Or.inl ⟨by rfl, ?_⟩) hHeld ?_ ?_
                     rotate_left
                     · rintro w' ⟨s0, s1, s2, s3, s4, s5, s6, s7, s8, s9, s10, s11⟩
                       go_simp
                       with_reducible rfl
                     rotate_left
                     · simp only [Act.put, sx1, sx2, sx3, i64_w, i32_w]
                       rfl
                     refine one_ (i := 14) (N := some 39) #[true, true, true, true, true, true, true, true, true, true, true, true, true, true, true, false, false] rfl rfl (one_of HT_.out (by kernel_rfl)) (by decide) (fun K hK => ?_)
                     refine goes_ Try.func157 (by kernel_rfl) rfl #[.agg #[.int .i64 a0_0, .slice A0_1 l0_1.length c0_1, .slice (some ad366) l0_2.length c0_2], .slice A1 l1.length c1, .int .i64 a2, .int .i64 x10_1, .slice Ao21 x9_1.length co21] (by rfl) rfl rfl lz ?_
                     with_reducible refine (spec_l18Behind.calls k1 a0_0 _ _ l0_1 _ _ l0_2 _ _ l1 a2 x10_1 _ _ x9_1 t369 _ ?side1 ?side2 ?side3 ?side4 ?side5 ?side6 ?side7 ?side8 A18.out).mono ?_
                     (case side1 => exact cz HR0_1.out)
                     (case side2 => exact HC0_1.out)
                     (case side3 => exact cz HR0_2.out)
                     (case side4 => exact HC0_2.out)
                     (case side5 => exact cz HR1.out)
                     (case side6 => exact HC1.out)
                     (case side7 => repeat (first | exact (Kd.R_reads' HO_9.out).2.2 | (with_reducible refine Kd.C_alloc ?_ _) | (with_reducible refine Kd.C_drewN ?_ _) | (with_reducible refine Kd.C_drew ?_)))
                     (case side8 => exact (Kd.R_reads' HO_9.out).2.1)
                     rintro e w22 ⟨v370, rfl, ho0, hb⟩
                     refine ⟨_, rfl, ?_⟩
                     have n0_ := Aside0.mk (Kd.R_elder' (rz HO_9.out) (Kd.R_base ho0) hb)
                     have n1_ := Aside0.mk (Kd.R_lower (Kd.R_new' ho0 (Kd.R_lt (rz HO_9.out))) (below_size bz))
                     have n2_ := Aside0.mk (blk_below (g := gb362) (o := .cells #[.int .i64 a0_0, .slice A0_1 l0_1.length c0_1, .slice (some ad366) l0_2.length c0_2] 29 (0, 0)) kz hb)
                     have n3_ := Aside0.mk (below_step bz hb)
                     clear HO_9
                     clear BK362
                     clear HB
                     have HO_9 := n0_
                     have HO371 := n1_
                     have BK362 := n2_
                     have HB := n3_
                     clear n0_ n1_ n2_ n3_
                     (try clear hb)
                     (try clear hb2)
                     (try clear hk)
                     (try clear hi)
                     (try clear ho0)
                     obtain ⟨Ao23, co23, eo23⟩ := Kd.R_slice HO371.out
                     (first | subst eo23 | (injection eo23 with f1_ f2_ f3_; have f4_ := f1_.symm; have f5_ := f3_.symm; clear f1_ f2_ f3_; subst f4_; subst f5_))
                     refine hK.out _ _ ⟨(blk_cell BK362.out 0).trans rfl, (blk_cell BK362.out 1).trans rfl, (blk_cell BK362.out 2).trans rfl, (ck HB hw367_0), (ck HB hw368_0), (ck HB hw368_1), (ck HB hw368_2), (ck HB hw368_3), (ck HB hw368_4), (ck HB hw368_5), (ck HB hw368_6), (ck HB hw368_7)⟩ (fun hHeld => ?_)
                     clear hK K
                     refine norm_ (a' := ?_) ?_ ?_
                     rotate_left
                     · show Act.put _ (some 39) _ = _
                       simp only [Act.put, sx1, sx2, sx3, i64_w, i32_w]
                       rfl
                     refine one_ (i := 15) (N := some 40) #[true, true, true, true, true, true, true, true, true, true, true, true, true, true, true, true, false] rfl rfl (one_of HT_.out (by kernel_rfl)) (by decide) (fun K hK => ?_)
                     refine goes_ Try.func156 (by kernel_rfl) rfl #[.agg #[.int .i64 ((rd_T87 ((rd_T85 l0_2 a2).f0) x10_1).f0), .int .i64 ((rd_T87 ((rd_T85 l0_2 a2).f0) x10_1).f1), .int .i64 ((rd_T87 ((rd_T85 l0_2 a2).f0) x10_1).f2), .int .i64 ((rd_T87 ((rd_T85 l0_2 a2).f0) x10_1).f3), .int .i64 ((rd_T87 ((rd_T85 l0_2 a2).f0) x10_1).f4), .int .i64 ((rd_T87 ((rd_T85 l0_2 a2).f0) x10_1).f5), .string ((rd_T87 ((rd_T85 l0_2 a2).f0) x10_1).f6), .slice A368_7 ((rd_T87 ((rd_T85 l0_2 a2).f0) x10_1).f7).length c368_7], .slice Ao23 t369.length co23] (by rfl) rfl rfl lz ?_
                     with_reducible refine (spec_l18Ahead.calls k1 ((rd_T87 ((rd_T85 l0_2 a2).f0) x10_1).f0) ((rd_T87 ((rd_T85 l0_2 a2).f0) x10_1).f1) ((rd_T87 ((rd_T85 l0_2 a2).f0) x10_1).f2) ((rd_T87 ((rd_T85 l0_2 a2).f0) x10_1).f3) ((rd_T87 ((rd_T85 l0_2 a2).f0) x10_1).f4) ((rd_T87 ((rd_T85 l0_2 a2).f0) x10_1).f5) ((rd_T87 ((rd_T85 l0_2 a2).f0) x10_1).f6) _ _ ((rd_T87 ((rd_T85 l0_2 a2).f0) x10_1).f7) _ _ t369 t372 _ ?side1 ?side2 ?side3 ?side4 A19.out).mono ?_
                     (case side1 => exact cz HR368_7.out)
                     (case side2 => exact HC368_7.out)
                     (case side3 => repeat (first | exact (Kd.R_reads' HO371.out).2.2 | (with_reducible refine Kd.C_alloc ?_ _) | (with_reducible refine Kd.C_drewN ?_ _) | (with_reducible refine Kd.C_drew ?_)))
                     (case side4 => exact (Kd.R_reads' HO371.out).2.1)
                     rintro e w24 ⟨v373, rfl, ho0, hb⟩
                     refine ⟨_, rfl, ?_⟩
                     have n0_ := Aside0.mk (Kd.R_elder' (rz HO_9.out) (Kd.R_base ho0) hb)
                     have n1_ := Aside0.mk (Kd.R_elder' (rz HO371.out) (Kd.R_base ho0) hb)
                     have n2_ := Aside0.mk (Kd.R_lower (Kd.R_new' (Kd.R_new' ho0 (Kd.R_lt (rz HO_9.out))) (Kd.R_lt (rz HO371.out))) (below_size bz))
                     have n3_ := Aside0.mk (blk_below (g := gb362) (o := .cells #[.int .i64 a0_0, .slice A0_1 l0_1.length c0_1, .slice (some ad366) l0_2.length c0_2] 29 (0, 0)) kz hb)
                     have n4_ := Aside0.mk (below_step bz hb)
                     clear HO_9
                     clear HO371
                     clear BK362
                     clear HB
                     have HO_9 := n0_
                     have HO371 := n1_
                     have HO374 := n2_
                     have BK362 := n3_
                     have HB := n4_
                     clear n0_ n1_ n2_ n3_ n4_
                     (try clear hb)
                     (try clear hb2)
                     (try clear hk)
                     (try clear hi)
                     (try clear ho0)
                     refine hK.out _ _ ⟨(blk_cell BK362.out 0).trans rfl, (blk_cell BK362.out 1).trans rfl, (blk_cell BK362.out 2).trans rfl, (ck HB hw367_0), (ck HB hw368_0), (ck HB hw368_1), (ck HB hw368_2), (ck HB hw368_3), (ck HB hw368_4), (ck HB hw368_5), (ck HB hw368_6), (ck HB hw368_7)⟩ (fun hHeld => ?_)
                     clear hK K
                     refine norm_ (a' := ?_) ?_ ?_
                     rotate_left
                     · show Act.put _ (some 40) _ = _
                       simp only [Act.put, sx1, sx2, sx3, i64_w, i32_w]
                       rfl
                     refine pure_ (i := 16) (N := some 9) (v := ?_) (a' := ?_) #[true, true, true, true, true, true, true, true, true, true, true, true, true, true, true, true, true] rfl rfl (any_of HT_.out (by kernel_rfl)) (fun _ _ _ h => h) (Or.inl ⟨by rfl, ?_⟩) ?_ ?_
                     rotate_left
                     · intro w'
                       go_simp
                       with_reducible rfl
                     rotate_left
                     · simp only [Act.put, sx1, sx2, sx3, i64_w, i32_w]
                       rfl
                     refine done_ (done_of HT_.out (by kernel_rfl)) ?_
                     try go_wp2
                     go_roundg k1
                     case measure => have := HK1.out; omega
                     case rel => exact ⟨(t372), (wrap64 (x10_1 - 1)), sz_, H', ⟨by have := HK1.out; omega⟩, ⟨by (with_reducible repeat (first | apply Kd.R_alloc | apply Kd.R_drewN | apply Kd.R_drew)); exact Kd.R_mono HO374.out (fun _ hk => trivial)⟩, ⟨ kz⟩, ⟨ bz⟩⟩
                   · rw [if_neg c17] at H
                     exact absurd H (by simp)
                 · rw [if_neg c16] at H
                   exact absurd H (by simp)
               · rw [if_neg c15] at H
                 exact absurd H (by simp)
             · rw [if_neg c14] at H
               exact absurd H (by simp)
           · rw [if_neg c13] at H
             have c13b0 : decide (0 ≤ x10_1) = false := decide_eq_false c13
             clear c13
             obtain rfl := Option.some.inj H
             go_wp2
             go_ret
             exact ⟨_, by first | rfl | (simp [errW_none, errW_some] <;> rfl) | (simp [*, errW_none, errW_some] <;> rfl), by (with_reducible repeat (first | apply Kd.R_alloc | apply Kd.R_drewN | apply Kd.R_drew)); exact HO_9.out, bz⟩
       · rw [if_neg c8] at H
         exact absurd H (by simp)
     · rw [if_neg c7] at H
       exact absurd H (by simp)
   · rw [if_neg c6] at H
     exact absurd H (by simp)
 · rw [if_neg c5] at H
   exact absurd H (by simp)

set_option linter.unusedVariables false
set_option linter.unusedSimpArgs false

mutual
def spec_l18Live.l0 : Nat → Int → List (List Bool) → Int → Int → List Int → List (S85) → Option ((List (List Bool)))
 | 0, _, _, _, _, _, _ => none
 | k + 1, x3, x4, x5, x376000, x376001, x376002 => if x5 < (x376002.length : Int) then (if 0 ≤ x3 then (if (x3 : Int).toNat ≤ 281474976710656 then (if x4.length < 5864062014805 then (spec_l18Live.l0 k x3 (x4 ++ [(List.replicate (x3 : Int).toNat false)]) (wrap64 (x5 + 1)) x376000 x376001 x376002) else (none)) else (none)) else (none)) else (spec_l18Live.l1 k x3 x4 true x376000 x376001 x376002)
def spec_l18Live.l1 : Nat → Int → List (List Bool) → Bool → Int → List Int → List (S85) → Option ((List (List Bool)))
 | 0, _, _, _, _, _, _ => none
 | k + 1, x3, x4, x6, x376000, x376001, x376002 => if x6 = true then (spec_l18Live.l2 k x3 x4 false (wrap64 ((x376002.length : Int) - 1)) x376000 x376001 x376002) else (some x4)
def spec_l18Live.l2 : Nat → Int → List (List Bool) → Bool → Int → Int → List Int → List (S85) → Option ((List (List Bool)))
 | 0, _, _, _, _, _, _, _ => none
 | k + 1, x3, x4, x6, x7, x376000, x376001, x376002 => if x7 ≥ 0 then ((spec_l18Block.f k x376000 x376001 x376002 x4 x7 x3).bind fun t386 => (spec_l18Live.l3 k x3 x4 x6 x7 t386 0 x376000 x376001 x376002)) else (spec_l18Live.l1 k x3 x4 x6 x376000 x376001 x376002)
def spec_l18Live.l3 : Nat → Int → List (List Bool) → Bool → Int → List Bool → Int → Int → List Int → List (S85) → Option ((List (List Bool)))
 | 0, _, _, _, _, _, _, _, _, _ => none
 | k + 1, x3, x4, x6, x7, x8, x9, x376000, x376001, x376002 => if x9 < x3 then (if 0 ≤ x9 then (if x9 < (x8.length : Int) then (if 0 ≤ x7 then (if x7 < (x4.length : Int) then (if x9 < ((rd_L12 x4 x7).length : Int) then (if ((rdOf false x8 x9) != (rdOf false (rd_L12 x4 x7) x9)) = true then (spec_l18Live.l3 k x3 x4 true x7 x8 (wrap64 (x9 + 1)) x376000 x376001 x376002) else (spec_l18Live.l3 k x3 x4 x6 x7 x8 (wrap64 (x9 + 1)) x376000 x376001 x376002)) else (none)) else (none)) else (none)) else (none)) else (none)) else (if 0 ≤ x7 then (if x7 < (x4.length : Int) then (spec_l18Live.l2 k x3 (x4.set (x7 : Int).toNat x8) x6 (wrap64 (x7 - 1)) x376000 x376001 x376002) else (none)) else (none))
end
def spec_l18Live.f (k : Nat) (a0_0 : Int) (l0_1 : List Int) (l0_2 : List (S85)) : Option ((List (List Bool))) := (spec_l18Most.f k a0_0 l0_1 l0_2).bind fun t376 => (spec_l18Live.l0 k t376 (([] : List (List Bool))) 0 a0_0 l0_1 l0_2)
set_option maxHeartbeats 8000000 in
set_option maxRecDepth 100000 in
theorem spec_l18Live.calls (k : Nat) (a0_0 : Int) (A0_1 : Option Addr) (c0_1 : Nat) (l0_1 : List Int) (A0_2 : Option Addr) (c0_2 : Nat) (l0_2 : List (S85)) (r : List (List Bool)) (w : World) (hr0_1 : Kd.C (Kd.int .i64) w A0_1 l0_1.length l0_1) (hc0_1 : l0_1.length ≤ c0_1) (hr0_2 : Kd.C k85 w A0_2 l0_2.length l0_2) (hc0_2 : l0_2.length ≤ c0_2) (h : spec_l18Live.f k a0_0 l0_1 l0_2 = some r) :
 Calls Try.prog 69 #[.agg #[.int .i64 a0_0, .slice A0_1 l0_1.length c0_1, .slice A0_2 l0_2.length c0_2]] w fun e w' => ∃ v0_ : Value, e = .returned (v0_) ∧ Kd.S (Kd.slice 4 Kd.bool) 97 w' w.heap.size (fun _ => True) v0_ r ∧ Below w.heap.size w w' := by
 have hu29 := Try.underlying29
 have HR0_1 := Aside0.mk hr0_1
 have HC0_1 := Aside0.mk hc0_1
 clear hr0_1 hc0_1
 have HR0_2 := Aside0.mk hr0_2
 have HC0_2 := Aside0.mk hc0_2
 clear hr0_2 hc0_2
 have HB := Aside0.mk (Below.refl w.heap.size w)
 have H : ((spec_l18Most.f k a0_0 l0_1 l0_2).bind fun t376 => (spec_l18Live.l0 k t376 (([] : List (List Bool))) 0 a0_0 l0_1 l0_2)) = some r := h
 clear h
 replace H := Option.bind_eq_some_iff.mp H
 obtain ⟨t376, A20, H⟩ := H
 replace H : (spec_l18Live.l0 k t376 (([] : List (List Bool))) 0 a0_0 l0_1 l0_2) = some r := H
 have A2 := Aside0.mk A20
 clear A20
 obtain ⟨y377, hy377⟩ : ∃ y_ : List (List Bool), y_ = (([] : List (List Bool))) := ⟨_, rfl⟩
 replace H : (spec_l18Live.l0 k t376 y377 0 a0_0 l0_1 l0_2) = some r := by first | (rw [hy377]; with_reducible exact H) | (have H2_ := (Option.bind_some _ _).symm.trans H; rw [hy377]; with_reducible exact H2_) | (have H2_ := (Option.bind_some _ _).symm.trans H; with_reducible exact H2_) | with_reducible exact H | (rw [hy377]; exact H) | exact H
 have Ny377 := Aside0.mk hy377
 clear hy377
 have H' := Aside0.mk H
 clear H
 go_enter Try.func69, Try.ntmps69
 go_wp2_with (first | ((with_reducible refine gate_dst (N := 1) rfl ?_); refine box_event ?hg (N := 1) ?hd (cs := #[.int .i64 a0_0, .slice A0_1 l0_1.length c0_1, .slice A0_2 l0_2.length c0_2]) (t := 29) ?hr ?_; (case hd => rfl); (case hg => rfl); (case hr => first | (go_simp; done) | (go_simp; rfl)); intro gb375 hg w3 hbox hb; have n0_ := Aside0.mk (below_step bz hb); have n1_ := Aside0.mk (hbox); have n2_ := Aside0.mk ((by rw [hg]; exact (below_size bz) : w.heap.size ≤ gb375)); have n3_ := Aside0.mk ((by rw [hg]; exact (below_size bz) : w.heap.size ≤ gb375)); clear HB; have HB := n0_; have BK375 := n1_; have GW375 := n2_; have GE375 := n3_; clear n0_ n1_ n2_ n3_; clear hb hbox hg; have hcz4_0 : w3.cell? ⟨gb375, 0, none⟩ = some (.int .i64 a0_0) := (blk_cell BK375.out 0).trans rfl; have hcz4_1 : w3.cell? ⟨gb375, 1, none⟩ = some (.slice A0_1 l0_1.length c0_1) := (blk_cell BK375.out 1).trans rfl; have hcz4_2 : w3.cell? ⟨gb375, 2, none⟩ = some (.slice A0_2 l0_2.length c0_2) := (blk_cell BK375.out 2).trans rfl; have hfz4_0 := blk_frozen BK375.out 0; have hfz4_1 := blk_frozen BK375.out 1; have hfz4_2 := blk_frozen BK375.out 2) | (go_at_call 121; (with_reducible refine (spec_l18Most.calls k a0_0 _ _ l0_1 _ _ l0_2 t376 _ ?side1 ?side2 ?side3 ?side4 A2.out).mono ?_); (case side1 => exact cz HR0_1.out); (case side2 => exact HC0_1.out); (case side3 => exact cz HR0_2.out); (case side4 => exact HC0_2.out); rintro e w5 ⟨rfl, hb⟩; have n0_ := Aside0.mk (blk_below (g := gb375) (o := .cells #[.int .i64 a0_0, .slice A0_1 l0_1.length c0_1, .slice A0_2 l0_2.length c0_2] 29 (0, 0)) kz hb); have n1_ := Aside0.mk (below_step bz hb); clear BK375; clear HB; have BK375 := n0_; have HB := n1_; clear n0_ n1_; (try clear hb); (try clear hb2); (try clear hk); (try clear hi)) | ((with_reducible refine gate_dst (N := 12) rfl ?_); refine Kd.S_lit (Kd.slice 4 Kd.bool) _ 97 ?hg (N := 12) ?hd (xs := ([] : List (List Bool))) (inner := []) (ok := fun _ => True) (okp := fun _ => True) ?hr ?hp (fun _ hk => hk) trivial (Below.refl _ _) (Nat.le_refl _) (by simp) ?_; (case hd => rfl); (case hg => rfl); (case hr => first | (go_simp; done) | (go_simp; rfl)); (case hp => exact (Reps.none _ _)); intro v378 w6 ho7 hb hg_ hnew_; clear hg_ hnew_; (first | rw [← Ny377.out] at ho7 | (simp only [Int.reduceToNat] at ho7; rw [← Ny377.out] at ho7)); have n0_ := Aside0.mk (Kd.S_lower ho7 (below_size bz)); have n1_ := Aside0.mk (blk_below (g := gb375) (o := .cells #[.int .i64 a0_0, .slice A0_1 l0_1.length c0_1, .slice A0_2 l0_2.length c0_2] 29 (0, 0)) kz hb); have n2_ := Aside0.mk (below_step bz hb); clear BK375; clear HB; have HO379 := n0_; have BK375 := n1_; have HB := n2_; clear n0_ n1_ n2_; clear hb ho7))
 repeat (go_quiet (first | ((with_reducible refine gate_dst (N := 1) rfl ?_); refine box_event ?hg (N := 1) ?hd (cs := #[.int .i64 a0_0, .slice A0_1 l0_1.length c0_1, .slice A0_2 l0_2.length c0_2]) (t := 29) ?hr ?_; (case hd => rfl); (case hg => rfl); (case hr => first | (go_simp; done) | (go_simp; rfl)); intro gb375 hg w3 hbox hb; have n0_ := Aside0.mk (below_step bz hb); have n1_ := Aside0.mk (hbox); have n2_ := Aside0.mk ((by rw [hg]; exact (below_size bz) : w.heap.size ≤ gb375)); have n3_ := Aside0.mk ((by rw [hg]; exact (below_size bz) : w.heap.size ≤ gb375)); clear HB; have HB := n0_; have BK375 := n1_; have GW375 := n2_; have GE375 := n3_; clear n0_ n1_ n2_ n3_; clear hb hbox hg; have hcz4_0 : w3.cell? ⟨gb375, 0, none⟩ = some (.int .i64 a0_0) := (blk_cell BK375.out 0).trans rfl; have hcz4_1 : w3.cell? ⟨gb375, 1, none⟩ = some (.slice A0_1 l0_1.length c0_1) := (blk_cell BK375.out 1).trans rfl; have hcz4_2 : w3.cell? ⟨gb375, 2, none⟩ = some (.slice A0_2 l0_2.length c0_2) := (blk_cell BK375.out 2).trans rfl; have hfz4_0 := blk_frozen BK375.out 0; have hfz4_1 := blk_frozen BK375.out 1; have hfz4_2 := blk_frozen BK375.out 2) | (go_at_call 121; (with_reducible refine (spec_l18Most.calls k a0_0 _ _ l0_1 _ _ l0_2 t376 _ ?side1 ?side2 ?side3 ?side4 A2.out).mono ?_); (case side1 => exact cz HR0_1.out); (case side2 => exact HC0_1.out); (case side3 => exact cz HR0_2.out); (case side4 => exact HC0_2.out); rintro e w5 ⟨rfl, hb⟩; have n0_ := Aside0.mk (blk_below (g := gb375) (o := .cells #[.int .i64 a0_0, .slice A0_1 l0_1.length c0_1, .slice A0_2 l0_2.length c0_2] 29 (0, 0)) kz hb); have n1_ := Aside0.mk (below_step bz hb); clear BK375; clear HB; have BK375 := n0_; have HB := n1_; clear n0_ n1_; (try clear hb); (try clear hb2); (try clear hk); (try clear hi)) | ((with_reducible refine gate_dst (N := 12) rfl ?_); refine Kd.S_lit (Kd.slice 4 Kd.bool) _ 97 ?hg (N := 12) ?hd (xs := ([] : List (List Bool))) (inner := []) (ok := fun _ => True) (okp := fun _ => True) ?hr ?hp (fun _ hk => hk) trivial (Below.refl _ _) (Nat.le_refl _) (by simp) ?_; (case hd => rfl); (case hg => rfl); (case hr => first | (go_simp; done) | (go_simp; rfl)); (case hp => exact (Reps.none _ _)); intro v378 w6 ho7 hb hg_ hnew_; clear hg_ hnew_; (first | rw [← Ny377.out] at ho7 | (simp only [Int.reduceToNat] at ho7; rw [← Ny377.out] at ho7)); have n0_ := Aside0.mk (Kd.S_lower ho7 (below_size bz)); have n1_ := Aside0.mk (blk_below (g := gb375) (o := .cells #[.int .i64 a0_0, .slice A0_1 l0_1.length c0_1, .slice A0_2 l0_2.length c0_2] 29 (0, 0)) kz hb); have n2_ := Aside0.mk (below_step bz hb); clear BK375; clear HB; have HO379 := n0_; have BK375 := n1_; have HB := n2_; clear n0_ n1_ n2_; clear hb ho7)); try go_wp2_with (first | ((with_reducible refine gate_dst (N := 1) rfl ?_); refine box_event ?hg (N := 1) ?hd (cs := #[.int .i64 a0_0, .slice A0_1 l0_1.length c0_1, .slice A0_2 l0_2.length c0_2]) (t := 29) ?hr ?_; (case hd => rfl); (case hg => rfl); (case hr => first | (go_simp; done) | (go_simp; rfl)); intro gb375 hg w3 hbox hb; have n0_ := Aside0.mk (below_step bz hb); have n1_ := Aside0.mk (hbox); have n2_ := Aside0.mk ((by rw [hg]; exact (below_size bz) : w.heap.size ≤ gb375)); have n3_ := Aside0.mk ((by rw [hg]; exact (below_size bz) : w.heap.size ≤ gb375)); clear HB; have HB := n0_; have BK375 := n1_; have GW375 := n2_; have GE375 := n3_; clear n0_ n1_ n2_ n3_; clear hb hbox hg; have hcz4_0 : w3.cell? ⟨gb375, 0, none⟩ = some (.int .i64 a0_0) := (blk_cell BK375.out 0).trans rfl; have hcz4_1 : w3.cell? ⟨gb375, 1, none⟩ = some (.slice A0_1 l0_1.length c0_1) := (blk_cell BK375.out 1).trans rfl; have hcz4_2 : w3.cell? ⟨gb375, 2, none⟩ = some (.slice A0_2 l0_2.length c0_2) := (blk_cell BK375.out 2).trans rfl; have hfz4_0 := blk_frozen BK375.out 0; have hfz4_1 := blk_frozen BK375.out 1; have hfz4_2 := blk_frozen BK375.out 2) | (go_at_call 121; (with_reducible refine (spec_l18Most.calls k a0_0 _ _ l0_1 _ _ l0_2 t376 _ ?side1 ?side2 ?side3 ?side4 A2.out).mono ?_); (case side1 => exact cz HR0_1.out); (case side2 => exact HC0_1.out); (case side3 => exact cz HR0_2.out); (case side4 => exact HC0_2.out); rintro e w5 ⟨rfl, hb⟩; have n0_ := Aside0.mk (blk_below (g := gb375) (o := .cells #[.int .i64 a0_0, .slice A0_1 l0_1.length c0_1, .slice A0_2 l0_2.length c0_2] 29 (0, 0)) kz hb); have n1_ := Aside0.mk (below_step bz hb); clear BK375; clear HB; have BK375 := n0_; have HB := n1_; clear n0_ n1_; (try clear hb); (try clear hb2); (try clear hk); (try clear hi)) | ((with_reducible refine gate_dst (N := 12) rfl ?_); refine Kd.S_lit (Kd.slice 4 Kd.bool) _ 97 ?hg (N := 12) ?hd (xs := ([] : List (List Bool))) (inner := []) (ok := fun _ => True) (okp := fun _ => True) ?hr ?hp (fun _ hk => hk) trivial (Below.refl _ _) (Nat.le_refl _) (by simp) ?_; (case hd => rfl); (case hg => rfl); (case hr => first | (go_simp; done) | (go_simp; rfl)); (case hp => exact (Reps.none _ _)); intro v378 w6 ho7 hb hg_ hnew_; clear hg_ hnew_; (first | rw [← Ny377.out] at ho7 | (simp only [Int.reduceToNat] at ho7; rw [← Ny377.out] at ho7)); have n0_ := Aside0.mk (Kd.S_lower ho7 (below_size bz)); have n1_ := Aside0.mk (blk_below (g := gb375) (o := .cells #[.int .i64 a0_0, .slice A0_1 l0_1.length c0_1, .slice A0_2 l0_2.length c0_2] 29 (0, 0)) kz hb); have n2_ := Aside0.mk (below_step bz hb); clear BK375; clear HB; have HO379 := n0_; have BK375 := n1_; have HB := n2_; clear n0_ n1_ n2_; clear hb ho7)))
 go_loopg [4, 5] k (fun kq v4 v5 w' => ∃ (x4_1 : List (List Bool)) (x5_1 : Int), v5 = .int .i64 x5_1 ∧ Aside0 (spec_l18Live.l0 kq t376 x4_1 x5_1 a0_0 l0_1 l0_2 = some r) ∧ Aside0 (kq ≤ k) ∧ Aside0 (Kd.S (Kd.slice 4 Kd.bool) 97 w' w.heap.size (fun _ => True) v4 x4_1) ∧ Aside0 (w'.heap[gb375]? = some (.cells #[.int .i64 a0_0, (.slice A0_1 l0_1.length c0_1), (.slice A0_2 l0_2.length c0_2)] 29 (0, 0))) ∧ Aside0 (Below w.heap.size w w'))
 case atStart => exact ⟨(y377), (0), sz_, H', ⟨Nat.le_refl _⟩, ⟨by (with_reducible repeat (first | apply Kd.S_alloc | apply Kd.S_drewN | apply Kd.S_drew)); exact HO379.out⟩, ⟨ kz⟩, ⟨ bz⟩⟩
 case round =>
  clear H'
  obtain ⟨x4_1, x5_1, rfl, HA, HK1, HO_4, BK375, HB⟩ := hrel
  cases gk with
  | zero => exact absurd HA.out (by simp [spec_l18Live.l0])
  | succ k1 =>
   have H := HA.out
   clear HA
   simp only [spec_l18Live.l0] at H
   by_cases c8 : x5_1 < (l0_2.length : Int)
   · rw [if_pos c8] at H
     have c8b0 : decide (x5_1 < (l0_2.length : Int)) = true := decide_eq_true c8
     clear c8
     by_cases c9 : 0 ≤ t376
     · rw [if_pos c9] at H
       have c9b0 := eq_true c9
       have c9b1 : decide (0 ≤ t376) = true := decide_eq_true c9
       clear c9
       by_cases c10 : (t376 : Int).toNat ≤ 281474976710656
       · rw [if_pos c10] at H
         have c10b0 := eq_true c10
         have c10b1 : decide ((t376 : Int).toNat ≤ 281474976710656) = true := decide_eq_true c10
         clear c10
         obtain ⟨y380, hy380⟩ : ∃ y_ : List Bool, y_ = (List.replicate (t376 : Int).toNat false) := ⟨_, rfl⟩
         replace H : (if x4_1.length < 5864062014805 then (spec_l18Live.l0 k1 t376 (x4_1 ++ [y380]) (wrap64 (x5_1 + 1)) a0_0 l0_1 l0_2) else (none)) = some r := by first | (rw [hy380]; with_reducible exact H) | (have H2_ := (Option.bind_some _ _).symm.trans H; rw [hy380]; with_reducible exact H2_) | (have H2_ := (Option.bind_some _ _).symm.trans H; with_reducible exact H2_) | with_reducible exact H | (rw [hy380]; exact H) | exact H
         have Ny380 := Aside0.mk hy380
         clear hy380
         by_cases c11 : x4_1.length < 5864062014805
         · rw [if_pos c11] at H
           have LMc11 := Aside0.mk c11
           clear c11
           obtain ⟨y383, hy383⟩ : ∃ y_ : List (List Bool), y_ = (x4_1 ++ [y380]) := ⟨_, rfl⟩
           replace H : (spec_l18Live.l0 k1 t376 y383 (wrap64 (x5_1 + 1)) a0_0 l0_1 l0_2) = some r := by first | (rw [hy383]; with_reducible exact H) | (have H2_ := (Option.bind_some _ _).symm.trans H; rw [hy383]; with_reducible exact H2_) | (have H2_ := (Option.bind_some _ _).symm.trans H; with_reducible exact H2_) | with_reducible exact H | (rw [hy383]; exact H) | exact H
           have Ny383 := Aside0.mk hy383
           clear hy383
           have H' := Aside0.mk H
           clear H
           have hcz12_0 : wr.cell? ⟨gb375, 0, none⟩ = some (.int .i64 a0_0) := (blk_cell BK375.out 0).trans rfl
           have hcz12_1 : wr.cell? ⟨gb375, 1, none⟩ = some (.slice A0_1 l0_1.length c0_1) := (blk_cell BK375.out 1).trans rfl
           have hcz12_2 : wr.cell? ⟨gb375, 2, none⟩ = some (.slice A0_2 l0_2.length c0_2) := (blk_cell BK375.out 2).trans rfl
           go_wp2_with (first | ((with_reducible refine gate_dst (N := 22) rfl ?_); refine Kd.R_make Kd.bool _ 4 rfl (N := 22) rfl 97 _ _ rfl t376 rfl rfl Try.underlying97 (.bool false) 1 info4 rfl (by decide) (by omega) false (ok := fun _ => True) (okp := fun _ => True) rfl (fun _ hk => hk) trivial (of_decide_eq_true az) (Nat.le_trans (Nat.mul_le_mul_right _ (of_decide_eq_true az : t376.toNat ≤ 281474976710656)) (by omega)) (Below.refl _ _) (Nat.le_refl _) ?_; intro v381 w13 ho14 hb hg_ hnew_; clear hg_ hnew_; (first | rw [← Ny380.out] at ho14 | (simp only [Int.reduceToNat] at ho14; rw [← Ny380.out] at ho14)); have n0_ := Aside0.mk (Kd.S_elder' (rs HO_4.out) (Kd.R_base ho14) hb); have n1_ := Aside0.mk (Kd.R_lower ho14 (below_size bz)); have n2_ := Aside0.mk (blk_below (g := gb375) (o := .cells #[.int .i64 a0_0, .slice A0_1 l0_1.length c0_1, .slice A0_2 l0_2.length c0_2] 29 (0, 0)) kz hb); have n3_ := Aside0.mk (below_step bz hb); clear HO_4; clear BK375; clear HB; have HO_4 := n0_; have HO382 := n1_; have BK375 := n2_; have HB := n3_; clear n0_ n1_ n2_ n3_; clear hb ho14; obtain ⟨Ao16, co16, eo16⟩ := Kd.R_slice HO382.out; subst eo16) | ((with_reducible refine gate_builtin (b := .append) (xs := #[.tmp 20, .tmp 23]) rfl ?_); at_builtin; refine Kd.S_append (Kd.slice 4 Kd.bool) (w0 := w) w.heap.size rfl (.tmp 20) (.tmp 23) 98 97 (.slice none 0 0) 24 rfl Try.underlying98 info97 rfl (by decide) (by omega) u4 x4_1 y380 [.slice Ao16 y380.length co16] (fun _ => True) (fun k_ => some k_ = (.slice Ao16 y380.length co16 : Value).ownBlock) rfl rfl ?aP (fun k_ hk_ => ((Kd.R_mono (ok' := fun k_ => ((fun _ => True)) k_ ∧ some k_ ≠ (u4 : Value).ownBlock) (Kd.R_apart' (HO382.out) (Kd.S_typed HO_4.out) (by decide)) (fun k_ hk => ⟨trivial, hk.2⟩))).1 k_ hk_.symm) ?aF ?aO ?aB ?aS ?aL ?_; (case aP => exact Kd.M_row (Kd.R_mono (Kd.R_tight rfl (Kd.R_mono (ok' := fun k_ => ((fun _ => True)) k_ ∧ some k_ ≠ (u4 : Value).ownBlock) (Kd.R_apart' (HO382.out) (Kd.S_typed HO_4.out) (by decide)) (fun k_ hk => ⟨trivial, hk.2⟩))) (fun _ h_ => h_))); (case aB => exact bz); (case aF => exact (fun _ _ => trivial)); (case aO => exact (by (with_reducible repeat (first | apply Kd.S_alloc | apply Kd.S_drewN | apply Kd.S_drew)); exact Kd.S_mono HO_4.out (fun k_ hk => ⟨trivial, fun e_ => hk.2 e_⟩))); (case aS => exact (below_size bz)); (case aL => have := LMc11.out; omega); intro v384 w15 ho hb hg hat; rw [← Ny383.out] at ho; have n0_ := Aside0.mk (blk_grown (g := gb375) (o := .cells #[.int .i64 a0_0, .slice A0_1 l0_1.length c0_1, .slice A0_2 l0_2.length c0_2] 29 (0, 0)) kz hg (Kd.S_ne HO_4.out BK375.out (by decide))); have n1_ := Aside0.mk (hb); have n2_ := Aside0.mk (ho); clear BK375; clear HB; clear HO_4; clear HO382; have BK375 := n0_; have HB := n1_; have HO385 := n2_; clear n0_ n1_ n2_; clear ho hb hg hat))
           repeat (go_quiet (first | ((with_reducible refine gate_dst (N := 22) rfl ?_); refine Kd.R_make Kd.bool _ 4 rfl (N := 22) rfl 97 _ _ rfl t376 rfl rfl Try.underlying97 (.bool false) 1 info4 rfl (by decide) (by omega) false (ok := fun _ => True) (okp := fun _ => True) rfl (fun _ hk => hk) trivial (of_decide_eq_true az) (Nat.le_trans (Nat.mul_le_mul_right _ (of_decide_eq_true az : t376.toNat ≤ 281474976710656)) (by omega)) (Below.refl _ _) (Nat.le_refl _) ?_; intro v381 w13 ho14 hb hg_ hnew_; clear hg_ hnew_; (first | rw [← Ny380.out] at ho14 | (simp only [Int.reduceToNat] at ho14; rw [← Ny380.out] at ho14)); have n0_ := Aside0.mk (Kd.S_elder' (rs HO_4.out) (Kd.R_base ho14) hb); have n1_ := Aside0.mk (Kd.R_lower ho14 (below_size bz)); have n2_ := Aside0.mk (blk_below (g := gb375) (o := .cells #[.int .i64 a0_0, .slice A0_1 l0_1.length c0_1, .slice A0_2 l0_2.length c0_2] 29 (0, 0)) kz hb); have n3_ := Aside0.mk (below_step bz hb); clear HO_4; clear BK375; clear HB; have HO_4 := n0_; have HO382 := n1_; have BK375 := n2_; have HB := n3_; clear n0_ n1_ n2_ n3_; clear hb ho14; obtain ⟨Ao16, co16, eo16⟩ := Kd.R_slice HO382.out; subst eo16) | ((with_reducible refine gate_builtin (b := .append) (xs := #[.tmp 20, .tmp 23]) rfl ?_); at_builtin; refine Kd.S_append (Kd.slice 4 Kd.bool) (w0 := w) w.heap.size rfl (.tmp 20) (.tmp 23) 98 97 (.slice none 0 0) 24 rfl Try.underlying98 info97 rfl (by decide) (by omega) u4 x4_1 y380 [.slice Ao16 y380.length co16] (fun _ => True) (fun k_ => some k_ = (.slice Ao16 y380.length co16 : Value).ownBlock) rfl rfl ?aP (fun k_ hk_ => ((Kd.R_mono (ok' := fun k_ => ((fun _ => True)) k_ ∧ some k_ ≠ (u4 : Value).ownBlock) (Kd.R_apart' (HO382.out) (Kd.S_typed HO_4.out) (by decide)) (fun k_ hk => ⟨trivial, hk.2⟩))).1 k_ hk_.symm) ?aF ?aO ?aB ?aS ?aL ?_; (case aP => exact Kd.M_row (Kd.R_mono (Kd.R_tight rfl (Kd.R_mono (ok' := fun k_ => ((fun _ => True)) k_ ∧ some k_ ≠ (u4 : Value).ownBlock) (Kd.R_apart' (HO382.out) (Kd.S_typed HO_4.out) (by decide)) (fun k_ hk => ⟨trivial, hk.2⟩))) (fun _ h_ => h_))); (case aB => exact bz); (case aF => exact (fun _ _ => trivial)); (case aO => exact (by (with_reducible repeat (first | apply Kd.S_alloc | apply Kd.S_drewN | apply Kd.S_drew)); exact Kd.S_mono HO_4.out (fun k_ hk => ⟨trivial, fun e_ => hk.2 e_⟩))); (case aS => exact (below_size bz)); (case aL => have := LMc11.out; omega); intro v384 w15 ho hb hg hat; rw [← Ny383.out] at ho; have n0_ := Aside0.mk (blk_grown (g := gb375) (o := .cells #[.int .i64 a0_0, .slice A0_1 l0_1.length c0_1, .slice A0_2 l0_2.length c0_2] 29 (0, 0)) kz hg (Kd.S_ne HO_4.out BK375.out (by decide))); have n1_ := Aside0.mk (hb); have n2_ := Aside0.mk (ho); clear BK375; clear HB; clear HO_4; clear HO382; have BK375 := n0_; have HB := n1_; have HO385 := n2_; clear n0_ n1_ n2_; clear ho hb hg hat)); try go_wp2_with (first | ((with_reducible refine gate_dst (N := 22) rfl ?_); refine Kd.R_make Kd.bool _ 4 rfl (N := 22) rfl 97 _ _ rfl t376 rfl rfl Try.underlying97 (.bool false) 1 info4 rfl (by decide) (by omega) false (ok := fun _ => True) (okp := fun _ => True) rfl (fun _ hk => hk) trivial (of_decide_eq_true az) (Nat.le_trans (Nat.mul_le_mul_right _ (of_decide_eq_true az : t376.toNat ≤ 281474976710656)) (by omega)) (Below.refl _ _) (Nat.le_refl _) ?_; intro v381 w13 ho14 hb hg_ hnew_; clear hg_ hnew_; (first | rw [← Ny380.out] at ho14 | (simp only [Int.reduceToNat] at ho14; rw [← Ny380.out] at ho14)); have n0_ := Aside0.mk (Kd.S_elder' (rs HO_4.out) (Kd.R_base ho14) hb); have n1_ := Aside0.mk (Kd.R_lower ho14 (below_size bz)); have n2_ := Aside0.mk (blk_below (g := gb375) (o := .cells #[.int .i64 a0_0, .slice A0_1 l0_1.length c0_1, .slice A0_2 l0_2.length c0_2] 29 (0, 0)) kz hb); have n3_ := Aside0.mk (below_step bz hb); clear HO_4; clear BK375; clear HB; have HO_4 := n0_; have HO382 := n1_; have BK375 := n2_; have HB := n3_; clear n0_ n1_ n2_ n3_; clear hb ho14; obtain ⟨Ao16, co16, eo16⟩ := Kd.R_slice HO382.out; subst eo16) | ((with_reducible refine gate_builtin (b := .append) (xs := #[.tmp 20, .tmp 23]) rfl ?_); at_builtin; refine Kd.S_append (Kd.slice 4 Kd.bool) (w0 := w) w.heap.size rfl (.tmp 20) (.tmp 23) 98 97 (.slice none 0 0) 24 rfl Try.underlying98 info97 rfl (by decide) (by omega) u4 x4_1 y380 [.slice Ao16 y380.length co16] (fun _ => True) (fun k_ => some k_ = (.slice Ao16 y380.length co16 : Value).ownBlock) rfl rfl ?aP (fun k_ hk_ => ((Kd.R_mono (ok' := fun k_ => ((fun _ => True)) k_ ∧ some k_ ≠ (u4 : Value).ownBlock) (Kd.R_apart' (HO382.out) (Kd.S_typed HO_4.out) (by decide)) (fun k_ hk => ⟨trivial, hk.2⟩))).1 k_ hk_.symm) ?aF ?aO ?aB ?aS ?aL ?_; (case aP => exact Kd.M_row (Kd.R_mono (Kd.R_tight rfl (Kd.R_mono (ok' := fun k_ => ((fun _ => True)) k_ ∧ some k_ ≠ (u4 : Value).ownBlock) (Kd.R_apart' (HO382.out) (Kd.S_typed HO_4.out) (by decide)) (fun k_ hk => ⟨trivial, hk.2⟩))) (fun _ h_ => h_))); (case aB => exact bz); (case aF => exact (fun _ _ => trivial)); (case aO => exact (by (with_reducible repeat (first | apply Kd.S_alloc | apply Kd.S_drewN | apply Kd.S_drew)); exact Kd.S_mono HO_4.out (fun k_ hk => ⟨trivial, fun e_ => hk.2 e_⟩))); (case aS => exact (below_size bz)); (case aL => have := LMc11.out; omega); intro v384 w15 ho hb hg hat; rw [← Ny383.out] at ho; have n0_ := Aside0.mk (blk_grown (g := gb375) (o := .cells #[.int .i64 a0_0, .slice A0_1 l0_1.length c0_1, .slice A0_2 l0_2.length c0_2] 29 (0, 0)) kz hg (Kd.S_ne HO_4.out BK375.out (by decide))); have n1_ := Aside0.mk (hb); have n2_ := Aside0.mk (ho); clear BK375; clear HB; clear HO_4; clear HO382; have BK375 := n0_; have HB := n1_; have HO385 := n2_; clear n0_ n1_ n2_; clear ho hb hg hat)))
           go_roundg k1
           case measure => have := HK1.out; omega
           case rel => exact ⟨(y383), (wrap64 (x5_1 + 1)), sz_, H', ⟨by have := HK1.out; omega⟩, ⟨by (with_reducible repeat (first | apply Kd.S_alloc | apply Kd.S_drewN | apply Kd.S_drew)); exact HO385.out⟩, ⟨ kz⟩, ⟨ bz⟩⟩
         · rw [if_neg c11] at H
           exact absurd H (by simp)
       · rw [if_neg c10] at H
         exact absurd H (by simp)
     · rw [if_neg c9] at H
       exact absurd H (by simp)
   · rw [if_neg c8] at H
     have c8b0 : decide (x5_1 < (l0_2.length : Int)) = false := decide_eq_false c8
     clear c8
     have H' := Aside0.mk H
     clear H
     have hcz17_0 : wr.cell? ⟨gb375, 0, none⟩ = some (.int .i64 a0_0) := (blk_cell BK375.out 0).trans rfl
     have hcz17_1 : wr.cell? ⟨gb375, 1, none⟩ = some (.slice A0_1 l0_1.length c0_1) := (blk_cell BK375.out 1).trans rfl
     have hcz17_2 : wr.cell? ⟨gb375, 2, none⟩ = some (.slice A0_2 l0_2.length c0_2) := (blk_cell BK375.out 2).trans rfl
     go_wp2
     repeat (go_quiet (fail); try go_wp2)
     go_loopg [6] k1 (fun kq v6 w' => ∃ (x4_2 : List (List Bool)) (x6_2 : Bool), v6 = .bool x6_2 ∧ Aside0 (spec_l18Live.l1 kq t376 x4_2 x6_2 a0_0 l0_1 l0_2 = some r) ∧ Aside0 (kq ≤ k1) ∧ Aside0 (Kd.S (Kd.slice 4 Kd.bool) 97 w' w.heap.size (fun _ => True) u4 x4_2) ∧ Aside0 (w'.heap[gb375]? = some (.cells #[.int .i64 a0_0, (.slice A0_1 l0_1.length c0_1), (.slice A0_2 l0_2.length c0_2)] 29 (0, 0))) ∧ Aside0 (Below w.heap.size w w'))
     case atStart => exact ⟨(x4_1), (true), sz_, H', ⟨Nat.le_refl _⟩, ⟨by (with_reducible repeat (first | apply Kd.S_alloc | apply Kd.S_drewN | apply Kd.S_drew)); exact HO_4.out⟩, ⟨ kz⟩, ⟨ bz⟩⟩
     case round =>
      clear H'
      obtain ⟨x4_2, x6_2, rfl, HA, HK2, HO_4, BK375, HB⟩ := hrel
      cases gk with
      | zero => exact absurd HA.out (by simp [spec_l18Live.l1])
      | succ k2 =>
       have H := HA.out
       clear HA
       simp only [spec_l18Live.l1] at H
       by_cases c18 : x6_2 = true
       · subst c18
         have H1 : (spec_l18Live.l2 k2 t376 x4_2 false (wrap64 ((l0_2.length : Int) - 1)) a0_0 l0_1 l0_2) = some r := by rw [if_pos rfl] at H; exact H
         clear H
         have H := H1
         clear H1
         have H' := Aside0.mk H
         clear H
         have hcz19_0 : wr.cell? ⟨gb375, 0, none⟩ = some (.int .i64 a0_0) := (blk_cell BK375.out 0).trans rfl
         have hcz19_1 : wr.cell? ⟨gb375, 1, none⟩ = some (.slice A0_1 l0_1.length c0_1) := (blk_cell BK375.out 1).trans rfl
         have hcz19_2 : wr.cell? ⟨gb375, 2, none⟩ = some (.slice A0_2 l0_2.length c0_2) := (blk_cell BK375.out 2).trans rfl
         go_wp2
         repeat (go_quiet (fail); try go_wp2)
         go_loopg [6, 7] k2 (fun kq v6 v7 w' => ∃ (x4_3 : List (List Bool)) (x6_3 : Bool) (x7_3 : Int), v6 = .bool x6_3 ∧ v7 = .int .i64 x7_3 ∧ Aside0 (spec_l18Live.l2 kq t376 x4_3 x6_3 x7_3 a0_0 l0_1 l0_2 = some r) ∧ Aside0 (kq ≤ k2) ∧ Aside0 (Kd.S (Kd.slice 4 Kd.bool) 97 w' w.heap.size (fun _ => True) u4 x4_3) ∧ Aside0 (w'.heap[gb375]? = some (.cells #[.int .i64 a0_0, (.slice A0_1 l0_1.length c0_1), (.slice A0_2 l0_2.length c0_2)] 29 (0, 0))) ∧ Aside0 (Below w.heap.size w w'))
         case atStart => exact ⟨(x4_2), (false), (wrap64 ((l0_2.length : Int) - 1)), sz_, sz_, H', ⟨Nat.le_refl _⟩, ⟨by (with_reducible repeat (first | apply Kd.S_alloc | apply Kd.S_drewN | apply Kd.S_drew)); exact HO_4.out⟩, ⟨ kz⟩, ⟨ bz⟩⟩
         case round =>
          clear H'
          obtain ⟨x4_3, x6_3, x7_3, rfl, rfl, HA, HK3, HO_4, BK375, HB⟩ := hrel
          cases gk with
          | zero => exact absurd HA.out (by simp [spec_l18Live.l2])
          | succ k3 =>
           have H := HA.out
           clear HA
           simp only [spec_l18Live.l2] at H
           by_cases c20 : x7_3 ≥ 0
           · rw [if_pos c20] at H
             have c20b0 : decide (0 ≤ x7_3) = true := decide_eq_true c20
             clear c20
             replace H := Option.bind_eq_some_iff.mp H
             obtain ⟨t386, A210, H⟩ := H
             replace H : (spec_l18Live.l3 k3 t376 x4_3 x6_3 x7_3 t386 0 a0_0 l0_1 l0_2) = some r := H
             have A21 := Aside0.mk A210
             clear A210
             have H' := Aside0.mk H
             clear H
             have hcz22_0 : wr.cell? ⟨gb375, 0, none⟩ = some (.int .i64 a0_0) := (blk_cell BK375.out 0).trans rfl
             have hcz22_1 : wr.cell? ⟨gb375, 1, none⟩ = some (.slice A0_1 l0_1.length c0_1) := (blk_cell BK375.out 1).trans rfl
             have hcz22_2 : wr.cell? ⟨gb375, 2, none⟩ = some (.slice A0_2 l0_2.length c0_2) := (blk_cell BK375.out 2).trans rfl
             obtain ⟨Ao23, co23, eo23⟩ := Kd.S_slice HO_4.out
             subst eo23
             go_wp2_with (first | (go_at_call 122; (with_reducible refine (spec_l18Block.calls k3 a0_0 _ _ l0_1 _ _ l0_2 _ _ x4_3 x7_3 t376 t386 _ ?side1 ?side2 ?side3 ?side4 ?side5 ?side6 A21.out).mono ?_); (case side1 => exact cz HR0_1.out); (case side2 => exact HC0_1.out); (case side3 => exact cz HR0_2.out); (case side4 => exact HC0_2.out); (case side5 => repeat (first | exact (Kd.S_reads' HO_4.out).2.2 | (with_reducible refine Kd.C_alloc ?_ _) | (with_reducible refine Kd.C_drewN ?_ _) | (with_reducible refine Kd.C_drew ?_))); (case side6 => exact (Kd.S_reads' HO_4.out).2.1); rintro e w24 ⟨v387, rfl, ho0, hb⟩; have n0_ := Aside0.mk (Kd.S_elder' (rs HO_4.out) (Kd.R_base ho0) hb); have n1_ := Aside0.mk (Kd.R_lower ho0 (below_size bz)); have n2_ := Aside0.mk (blk_below (g := gb375) (o := .cells #[.int .i64 a0_0, .slice A0_1 l0_1.length c0_1, .slice A0_2 l0_2.length c0_2] 29 (0, 0)) kz hb); have n3_ := Aside0.mk (below_step bz hb); clear HO_4; clear BK375; clear HB; have HO_4 := n0_; have HO388 := n1_; have BK375 := n2_; have HB := n3_; clear n0_ n1_ n2_ n3_; (try clear hb); (try clear hb2); (try clear hk); (try clear hi); (try clear ho0)))
             repeat (go_quiet (first | (go_at_call 122; (with_reducible refine (spec_l18Block.calls k3 a0_0 _ _ l0_1 _ _ l0_2 _ _ x4_3 x7_3 t376 t386 _ ?side1 ?side2 ?side3 ?side4 ?side5 ?side6 A21.out).mono ?_); (case side1 => exact cz HR0_1.out); (case side2 => exact HC0_1.out); (case side3 => exact cz HR0_2.out); (case side4 => exact HC0_2.out); (case side5 => repeat (first | exact (Kd.S_reads' HO_4.out).2.2 | (with_reducible refine Kd.C_alloc ?_ _) | (with_reducible refine Kd.C_drewN ?_ _) | (with_reducible refine Kd.C_drew ?_))); (case side6 => exact (Kd.S_reads' HO_4.out).2.1); rintro e w24 ⟨v387, rfl, ho0, hb⟩; have n0_ := Aside0.mk (Kd.S_elder' (rs HO_4.out) (Kd.R_base ho0) hb); have n1_ := Aside0.mk (Kd.R_lower ho0 (below_size bz)); have n2_ := Aside0.mk (blk_below (g := gb375) (o := .cells #[.int .i64 a0_0, .slice A0_1 l0_1.length c0_1, .slice A0_2 l0_2.length c0_2] 29 (0, 0)) kz hb); have n3_ := Aside0.mk (below_step bz hb); clear HO_4; clear BK375; clear HB; have HO_4 := n0_; have HO388 := n1_; have BK375 := n2_; have HB := n3_; clear n0_ n1_ n2_ n3_; (try clear hb); (try clear hb2); (try clear hk); (try clear hi); (try clear ho0))); try go_wp2_with (first | (go_at_call 122; (with_reducible refine (spec_l18Block.calls k3 a0_0 _ _ l0_1 _ _ l0_2 _ _ x4_3 x7_3 t376 t386 _ ?side1 ?side2 ?side3 ?side4 ?side5 ?side6 A21.out).mono ?_); (case side1 => exact cz HR0_1.out); (case side2 => exact HC0_1.out); (case side3 => exact cz HR0_2.out); (case side4 => exact HC0_2.out); (case side5 => repeat (first | exact (Kd.S_reads' HO_4.out).2.2 | (with_reducible refine Kd.C_alloc ?_ _) | (with_reducible refine Kd.C_drewN ?_ _) | (with_reducible refine Kd.C_drew ?_))); (case side6 => exact (Kd.S_reads' HO_4.out).2.1); rintro e w24 ⟨v387, rfl, ho0, hb⟩; have n0_ := Aside0.mk (Kd.S_elder' (rs HO_4.out) (Kd.R_base ho0) hb); have n1_ := Aside0.mk (Kd.R_lower ho0 (below_size bz)); have n2_ := Aside0.mk (blk_below (g := gb375) (o := .cells #[.int .i64 a0_0, .slice A0_1 l0_1.length c0_1, .slice A0_2 l0_2.length c0_2] 29 (0, 0)) kz hb); have n3_ := Aside0.mk (below_step bz hb); clear HO_4; clear BK375; clear HB; have HO_4 := n0_; have HO388 := n1_; have BK375 := n2_; have HB := n3_; clear n0_ n1_ n2_ n3_; (try clear hb); (try clear hb2); (try clear hk); (try clear hi); (try clear ho0))))
             go_loopg [6, 9] k3 (fun kq v6 v9 w' => ∃ (x6_4 : Bool) (x9_4 : Int), v6 = .bool x6_4 ∧ v9 = .int .i64 x9_4 ∧ Aside0 (spec_l18Live.l3 kq t376 x4_3 x6_4 x7_3 t386 x9_4 a0_0 l0_1 l0_2 = some r) ∧ Aside0 (kq ≤ k3) ∧ Aside0 (Kd.S (Kd.slice 4 Kd.bool) 97 w' w.heap.size (fun k_ => some k_ ≠ (v387 : Value).ownBlock) (.slice Ao23 x4_3.length co23) x4_3) ∧ Aside0 (Kd.R Kd.bool 4 w' w.heap.size (fun _ => True) v387 t386) ∧ Aside0 (w'.heap[gb375]? = some (.cells #[.int .i64 a0_0, (.slice A0_1 l0_1.length c0_1), (.slice A0_2 l0_2.length c0_2)] 29 (0, 0))) ∧ Aside0 (Below w.heap.size w w'))
             case atStart => exact ⟨(x6_3), (0), sz_, sz_, H', ⟨Nat.le_refl _⟩, ⟨by (with_reducible repeat (first | apply Kd.S_alloc | apply Kd.S_drewN | apply Kd.S_drew)); exact Kd.S_mono HO_4.out (fun _ hk => hk.2)⟩, ⟨by (with_reducible repeat (first | apply Kd.R_alloc | apply Kd.R_drewN | apply Kd.R_drew)); exact HO388.out⟩, ⟨ kz⟩, ⟨ bz⟩⟩
             case round =>
              clear H'
              obtain ⟨x6_4, x9_4, rfl, rfl, HA, HK4, HO_4, HO_8, BK375, HB⟩ := hrel
              cases gk with
              | zero => exact absurd HA.out (by simp [spec_l18Live.l3])
              | succ k4 =>
               have H := HA.out
               clear HA
               simp only [spec_l18Live.l3] at H
               by_cases c25 : x9_4 < t376
               · rw [if_pos c25] at H
                 have c25b0 : decide (x9_4 < t376) = true := decide_eq_true c25
                 clear c25
                 by_cases c26 : 0 ≤ x9_4
                 · rw [if_pos c26] at H
                   have c26b0 : decide (0 ≤ x9_4) = true := decide_eq_true c26
                   clear c26
                   by_cases c27 : x9_4 < (t386.length : Int)
                   · rw [if_pos c27] at H
                     have c27b0 : decide (x9_4 < (t386.length : Int)) = true := decide_eq_true c27
                     clear c27
                     by_cases c28 : 0 ≤ x7_3
                     · rw [if_pos c28] at H
                       have c28b0 : decide (0 ≤ x7_3) = true := decide_eq_true c28
                       clear c28
                       by_cases c29 : x7_3 < (x4_3.length : Int)
                       · rw [if_pos c29] at H
                         have c29b0 : decide (x7_3 < (x4_3.length : Int)) = true := decide_eq_true c29
                         clear c29
                         by_cases c30 : x9_4 < ((rd_L12 x4_3 x7_3).length : Int)
                         · rw [if_pos c30] at H
                           have c30b0 : decide (x9_4 < ((rd_L12 x4_3 x7_3).length : Int)) = true := decide_eq_true c30
                           clear c30
                           by_cases c31 : ((rdOf false t386 x9_4) != (rdOf false (rd_L12 x4_3 x7_3) x9_4)) = true
                           · rw [if_pos c31] at H
                             have c31b0 : ((rdOf false t386 x9_4) != (rdOf false (rd_L12 x4_3 x7_3) x9_4)) = true := c31
                             (try (have c31b1 : decide ((rdOf false t386 x9_4) = (rdOf false (rd_L12 x4_3 x7_3) x9_4)) = false := by simpa using c31))
                             (try (have c31b2 : ((rdOf false t386 x9_4) == (rdOf false (rd_L12 x4_3 x7_3) x9_4)) = false := by simpa using c31))
                             (try (have c31b3 : ¬ ((rdOf false t386 x9_4) = (rdOf false (rd_L12 x4_3 x7_3) x9_4)) := by simpa using c31))
                             clear c31
                             have H' := Aside0.mk H
                             clear H
                             obtain ⟨Ao32, co32, eo32⟩ := Kd.R_slice HO_8.out
                             subst eo32
                             have p389 : 0 ≤ (x9_4 : Int) := of_decide_eq_true az
                             have q389 : x9_4 < (t386.length : Int) := of_decide_eq_true az
                             obtain ⟨ad389, e389, hx389_0⟩ := Kd.at_bool (Kd.R_reads' HO_8.out).2.2 x9_4 p389 q389
                             cases e389
                             replace p389 := eq_true p389
                             replace q389 := eq_true q389
                             have p390 : 0 ≤ (x7_3 : Int) := of_decide_eq_true az
                             have q390 : x7_3 < (x4_3.length : Int) := of_decide_eq_true az
                             obtain ⟨ad390, A390_0, c390_0, e390, hx390_0, hl390_0, hi390_0⟩ := at_L12 (Kd.S_reads' HO_4.out).2.2 x7_3 p390 q390
                             cases e390
                             obtain ⟨ce390, hce390, hMe390, hcc390⟩ := Kd.S_get HO_4.out [] x7_3 p390 (by first | exact q390 | exact of_decide_eq_true az | (have e_ := (Kd.S_reads' HO_4.out).1; omega))
                             obtain ⟨ve390_0, rfl, ge390_0⟩ := hMe390
                             have hv390_0 := hcc390 0 _ rfl
                             rw [Nat.add_zero, show ((Kd.slice 4 Kd.bool)).sz = 1 from rfl, Nat.mul_one] at hv390_0
                             replace hv390_0 := Option.some.inj (hv390_0.symm.trans hx390_0)
                             rw [hv390_0] at ge390_0
                             have HL390_0 := Aside0.mk (show Kd.R Kd.bool 4 _ _ _ _ (rd_L12 x4_3 x7_3) from ge390_0)
                             clear hv390_0 ge390_0
                             clear hcc390 hce390
                             have HR390_0 := Aside0.mk hi390_0
                             have HC390_0 := Aside0.mk hl390_0
                             clear hi390_0 hl390_0
                             replace p390 := eq_true p390
                             replace q390 := eq_true q390
                             have p391 : 0 ≤ (x9_4 : Int) := of_decide_eq_true az
                             have q391 : x9_4 < ((rd_L12 x4_3 x7_3).length : Int) := of_decide_eq_true az
                             obtain ⟨ad391, e391, hx391_0⟩ := Kd.at_bool (by repeat (first | (with_reducible exact HR390_0.out) | (with_reducible refine Kd.C_alloc ?_ _) | (with_reducible refine Kd.C_drewN ?_ _) | (with_reducible refine Kd.C_drew ?_) | exact HR390_0.out)) x9_4 p391 q391
                             cases e391
                             replace p391 := eq_true p391
                             replace q391 := eq_true q391
                             go_wp2
                             repeat (go_quiet (fail); try go_wp2)
                             go_roundg k4
                             case measure => have := HK1.out; have := HK2.out; have := HK3.out; have := HK4.out; omega
                             case rel => exact ⟨(true), (wrap64 (x9_4 + 1)), sz_, sz_, H', ⟨by have := HK1.out; have := HK2.out; have := HK3.out; have := HK4.out; omega⟩, ⟨by (with_reducible repeat (first | apply Kd.S_alloc | apply Kd.S_drewN | apply Kd.S_drew)); exact HO_4.out⟩, ⟨by (with_reducible repeat (first | apply Kd.R_alloc | apply Kd.R_drewN | apply Kd.R_drew)); exact HO_8.out⟩, ⟨ kz⟩, ⟨ bz⟩⟩
                           · rw [if_neg c31] at H
                             have c31b0 : ((rdOf false t386 x9_4) != (rdOf false (rd_L12 x4_3 x7_3) x9_4)) = false := by simpa using c31
                             (try (have c31b1 : decide ((rdOf false t386 x9_4) = (rdOf false (rd_L12 x4_3 x7_3) x9_4)) = true := by simpa using c31))
                             (try (have c31b2 : ((rdOf false t386 x9_4) == (rdOf false (rd_L12 x4_3 x7_3) x9_4)) = true := by simpa using c31))
                             clear c31
                             have H' := Aside0.mk H
                             clear H
                             obtain ⟨Ao33, co33, eo33⟩ := Kd.R_slice HO_8.out
                             subst eo33
                             have p389 : 0 ≤ (x9_4 : Int) := of_decide_eq_true az
                             have q389 : x9_4 < (t386.length : Int) := of_decide_eq_true az
                             obtain ⟨ad389, e389, hx389_0⟩ := Kd.at_bool (Kd.R_reads' HO_8.out).2.2 x9_4 p389 q389
                             cases e389
                             replace p389 := eq_true p389
                             replace q389 := eq_true q389
                             have p390 : 0 ≤ (x7_3 : Int) := of_decide_eq_true az
                             have q390 : x7_3 < (x4_3.length : Int) := of_decide_eq_true az
                             obtain ⟨ad390, A390_0, c390_0, e390, hx390_0, hl390_0, hi390_0⟩ := at_L12 (Kd.S_reads' HO_4.out).2.2 x7_3 p390 q390
                             cases e390
                             obtain ⟨ce390, hce390, hMe390, hcc390⟩ := Kd.S_get HO_4.out [] x7_3 p390 (by first | exact q390 | exact of_decide_eq_true az | (have e_ := (Kd.S_reads' HO_4.out).1; omega))
                             obtain ⟨ve390_0, rfl, ge390_0⟩ := hMe390
                             have hv390_0 := hcc390 0 _ rfl
                             rw [Nat.add_zero, show ((Kd.slice 4 Kd.bool)).sz = 1 from rfl, Nat.mul_one] at hv390_0
                             replace hv390_0 := Option.some.inj (hv390_0.symm.trans hx390_0)
                             rw [hv390_0] at ge390_0
                             have HL390_0 := Aside0.mk (show Kd.R Kd.bool 4 _ _ _ _ (rd_L12 x4_3 x7_3) from ge390_0)
                             clear hv390_0 ge390_0
                             clear hcc390 hce390
                             have HR390_0 := Aside0.mk hi390_0
                             have HC390_0 := Aside0.mk hl390_0
                             clear hi390_0 hl390_0
                             replace p390 := eq_true p390
                             replace q390 := eq_true q390
                             have p391 : 0 ≤ (x9_4 : Int) := of_decide_eq_true az
                             have q391 : x9_4 < ((rd_L12 x4_3 x7_3).length : Int) := of_decide_eq_true az
                             obtain ⟨ad391, e391, hx391_0⟩ := Kd.at_bool (by repeat (first | (with_reducible exact HR390_0.out) | (with_reducible refine Kd.C_alloc ?_ _) | (with_reducible refine Kd.C_drewN ?_ _) | (with_reducible refine Kd.C_drew ?_) | exact HR390_0.out)) x9_4 p391 q391
                             cases e391
                             replace p391 := eq_true p391
                             replace q391 := eq_true q391
                             go_wp2
                             repeat (go_quiet (fail); try go_wp2)
                             go_roundg k4
                             case measure => have := HK1.out; have := HK2.out; have := HK3.out; have := HK4.out; omega
                             case rel => exact ⟨(x6_4), (wrap64 (x9_4 + 1)), sz_, sz_, H', ⟨by have := HK1.out; have := HK2.out; have := HK3.out; have := HK4.out; omega⟩, ⟨by (with_reducible repeat (first | apply Kd.S_alloc | apply Kd.S_drewN | apply Kd.S_drew)); exact HO_4.out⟩, ⟨by (with_reducible repeat (first | apply Kd.R_alloc | apply Kd.R_drewN | apply Kd.R_drew)); exact HO_8.out⟩, ⟨ kz⟩, ⟨ bz⟩⟩
                         · rw [if_neg c30] at H
                           exact absurd H (by simp)
                       · rw [if_neg c29] at H
                         exact absurd H (by simp)
                     · rw [if_neg c28] at H
                       exact absurd H (by simp)
                   · rw [if_neg c27] at H
                     exact absurd H (by simp)
                 · rw [if_neg c26] at H
                   exact absurd H (by simp)
               · rw [if_neg c25] at H
                 have c25b0 : decide (x9_4 < t376) = false := decide_eq_false c25
                 clear c25
                 by_cases c34 : 0 ≤ x7_3
                 · rw [if_pos c34] at H
                   have c34b0 : decide (0 ≤ x7_3) = true := decide_eq_true c34
                   clear c34
                   by_cases c35 : x7_3 < (x4_3.length : Int)
                   · rw [if_pos c35] at H
                     have c35b0 : decide (x7_3 < (x4_3.length : Int)) = true := decide_eq_true c35
                     clear c35
                     obtain ⟨y392, hy392⟩ : ∃ y_ : List (List Bool), y_ = (x4_3.set (x7_3 : Int).toNat t386) := ⟨_, rfl⟩
                     replace H : (spec_l18Live.l2 k4 t376 y392 x6_4 (wrap64 (x7_3 - 1)) a0_0 l0_1 l0_2) = some r := by first | (rw [hy392]; with_reducible exact H) | (have H2_ := (Option.bind_some _ _).symm.trans H; rw [hy392]; with_reducible exact H2_) | (have H2_ := (Option.bind_some _ _).symm.trans H; with_reducible exact H2_) | with_reducible exact H | (rw [hy392]; exact H) | exact H
                     have Ny392 := Aside0.mk hy392
                     clear hy392
                     have H' := Aside0.mk H
                     clear H
                     have p36 : 0 ≤ (x7_3 : Int) := of_decide_eq_true az
                     have q36 : (x7_3 : Int) < ((x4_3.length : Int) : Int) := of_decide_eq_true az
                     obtain ⟨go36, co36, eo36, gb36, gl36, cl36, HG36⟩ := Kd.S_form HO_4.out (by omega)
                     (first | cases eo36 | (injection eo36 with ea_ en_ ec_; (first | subst ea_ | (injection ea_ with ea_; subst ea_)); subst ec_; clear en_))
                     have GB36 := Aside0.mk gb36
                     have GG36 := Aside0.mk HG36
                     clear gb36 gl36 HG36
                     obtain ⟨_, ce36, hcl36, hM36, hcc36, hfr36, _, _⟩ := Kd.S_elem HO_4.out [] (x7_3 : Int) p36 q36
                     obtain ⟨ve36_0, rfl, ge36_0⟩ := hM36
                     have hx36_0 := hcc36 0 _ rfl
                     have hf36_0 := hfr36 0
                     (try simp only [show ((Kd.slice 4 Kd.bool)).sz = 1 from rfl, Nat.mul_one, Nat.add_zero] at hx36_0)
                     (try simp only [show ((Kd.slice 4 Kd.bool)).sz = 1 from rfl, Nat.mul_one, Nat.add_zero] at hf36_0)
                     clear hcl36 hcc36 hfr36
                     (try clear hM36)
                     replace p36 := eq_true p36
                     replace q36 := eq_true q36
                     have HX37 := Aside0.mk (show Kd.S (Kd.slice 4 Kd.bool) 97 wr w.heap.size (fun k_ => ((fun _ => True)) k_ ∧ ¬ ((fun k_ => some k_ = (v387 : Value).ownBlock)) k_) (.slice (some ⟨go36, 0, none⟩) x4_3.length co23) x4_3 from (by (with_reducible repeat (first | apply Kd.S_alloc | apply Kd.S_drewN | apply Kd.S_drew)); exact Kd.S_mono HO_4.out (fun k_ hk => ⟨trivial, fun e_ => hk e_⟩)))
                     obtain ⟨oki37, ce37, hcl37, hM37, hcc37, hfr37, hoki37, hH37⟩ := Kd.S_elem HX37.out [] (x7_3 : Int) (of_decide_eq_true az) (by have h_ : (x7_3 : Int) < ((x4_3.length : Int) : Int) := of_decide_eq_true az; first | exact h_ | (have e_ := (Kd.S_reads' HO_4.out).1; omega) | simpa using h_)
                     obtain ⟨ve37_0, rfl, ge37_0⟩ := hM37
                     have HP37 := Kd.S_seg hH37 (of_decide_eq_true az) (by have h_ : (x7_3 : Int) < ((x4_3.length : Int) : Int) := of_decide_eq_true az; first | exact h_ | (have e_ := (Kd.S_reads' HO_4.out).1; omega) | simpa using h_) (seg := [v387]) (j := 0) (show 1 ≤ 1 from by decide) (x' := t386) (Kd.M_row (Kd.R_mono (Kd.R_tight rfl (Kd.R_mono (ok' := fun k_ => ((fun _ => True)) k_ ∧ k_ ≠ go36) (Kd.R_apart' (HO_8.out) (Kd.S_typed HO_4.out) (by decide)) (fun k_ hk => ⟨trivial, fun e_ => (hk.2) (by rw [e_]; rfl)⟩))) (fun _ h_ => Or.inr (h_)))) (fun _ hk => hk) (fun k_ hk_ => ((Kd.R_mono (ok' := fun k_ => ((fun _ => True)) k_ ∧ k_ ≠ go36) (Kd.R_apart' (HO_8.out) (Kd.S_typed HO_4.out) (by decide)) (fun k_ hk => ⟨trivial, fun e_ => (hk.2) (by rw [e_]; rfl)⟩))).1 k_ hk_.symm)
                     have hx37_0 := hcc37 0 _ rfl
                     (try simp only [show ((Kd.slice 4 Kd.bool)).sz = 1 from rfl, Nat.mul_one, Nat.add_zero] at hx37_0)
                     have hf37_0 := hfr37 0
                     (try simp only [show ((Kd.slice 4 Kd.bool)).sz = 1 from rfl, Nat.mul_one, Nat.add_zero] at hf37_0)
                     clear hcl37 hcc37 hfr37 hoki37 hH37
                     (try clear hM37)
                     (try simp only [show ((Kd.slice 4 Kd.bool)).sz = 1 from rfl, Nat.mul_one, Nat.add_zero] at HP37)
                     go_wp2_with (first | ((with_reducible refine gate_store (t := 97) (p := 59) rfl ?_); (try (rw [drewN_self wr]; generalize hq_ : World.drewN wr _ = wr; have n0_ := Aside0.mk (Kd.S_at hq_ HO_4.out); have n1_ := Aside0.mk (blk_at hq_ BK375.out); have n2_ := Aside0.mk (below_at hq_ HB.out); clear hq_ HO_4 BK375 HB; have HO_4 := n0_; have BK375 := n1_; have HB := n2_; clear n0_ n1_ n2_; (try (have HX37 := Aside0.mk (show Kd.S (Kd.slice 4 Kd.bool) 97 wr w.heap.size (fun k_ => ((fun _ => True)) k_ ∧ ¬ ((fun k_ => some k_ = (v387 : Value).ownBlock)) k_) (.slice (some ⟨go36, 0, none⟩) x4_3.length co23) x4_3 from (by (with_reducible repeat (first | apply Kd.S_alloc | apply Kd.S_drewN | apply Kd.S_drew)); exact Kd.S_mono HO_4.out (fun k_ hk => ⟨trivial, fun e_ => hk e_⟩))))); (try (obtain ⟨oki37, ce37, hcl37, hM37, hcc37, hfr37, hoki37, hH37⟩ := Kd.S_elem HX37.out [] (x7_3 : Int) (of_decide_eq_true az) (by have h_ : (x7_3 : Int) < ((x4_3.length : Int) : Int) := of_decide_eq_true az; first | exact h_ | (have e_ := (Kd.S_reads' HO_4.out).1; omega) | simpa using h_))); (try (obtain ⟨ve37_0, rfl, ge37_0⟩ := hM37)); (try (have HP37 := Kd.S_seg hH37 (of_decide_eq_true az) (by have h_ : (x7_3 : Int) < ((x4_3.length : Int) : Int) := of_decide_eq_true az; first | exact h_ | (have e_ := (Kd.S_reads' HO_4.out).1; omega) | simpa using h_) (seg := [v387]) (j := 0) (show 1 ≤ 1 from by decide) (x' := t386) (Kd.M_row (Kd.R_mono (Kd.R_tight rfl (Kd.R_mono (ok' := fun k_ => ((fun _ => True)) k_ ∧ k_ ≠ go36) (Kd.R_apart' (HO_8.out) (Kd.S_typed HO_4.out) (by decide)) (fun k_ hk => ⟨trivial, fun e_ => (hk.2) (by rw [e_]; rfl)⟩))) (fun _ h_ => Or.inr (h_)))) (fun _ hk => hk) (fun k_ hk_ => ((Kd.R_mono (ok' := fun k_ => ((fun _ => True)) k_ ∧ k_ ≠ go36) (Kd.R_apart' (HO_8.out) (Kd.S_typed HO_4.out) (by decide)) (fun k_ hk => ⟨trivial, fun e_ => (hk.2) (by rw [e_]; rfl)⟩))).1 k_ hk_.symm))); (try (have hx37_0 := hcc37 0 _ rfl)); (try (try simp only [show ((Kd.slice 4 Kd.bool)).sz = 1 from rfl, Nat.mul_one, Nat.add_zero] at hx37_0)); (try (have hf37_0 := hfr37 0)); (try (try simp only [show ((Kd.slice 4 Kd.bool)).sz = 1 from rfl, Nat.mul_one, Nat.add_zero] at hf37_0)); (try (clear hcl37 hcc37 hfr37 hM37 hoki37 hH37)); (try (try simp only [show ((Kd.slice 4 Kd.bool)).sz = 1 from rfl, Nat.mul_one, Nat.add_zero] at HP37)))); (try have st37_0 := fun (a_ : Addr) (m_ : Mode) (W_ : World) => run_store Try.prog W_ a_ v387 m_ (Kd.R_val HO_8.out).2); refine store_event (t := 97) (p := 59) (v := ?vo_w38) (w1 := (wr.setCell ⟨go36, (x7_3 : Int).toNat, none⟩ (v387))) ?hg ?ho ?hn ?hr ?_; (case ho => rfl); (case hg => rfl); (case hn => rfl); (case hr => first | (go_simp; done) | (go_simp; rfl) | (obtain ⟨Av_, cv_, ev_⟩ := Kd.R_slice HO_8.out; (try clear st37_0); (try clear st43_0); subst ev_; first | (go_simp; done) | (go_simp; rfl))); intro w38 hw; have hg : wr.grownBy w38 (some go36) := (by rw [hw]; exact HP37.2); have hp_ : Kd.S (Kd.slice 4 Kd.bool) 97 w38 w.heap.size (fun _ => True) (.slice (some ⟨go36, 0, none⟩) x4_3.length co23) y392 := (by rw [hw, Ny392.out]; exact HP37.1); clear HP37; (try clear st37_0); have n0_ := Aside0.mk (hp_); have n1_ := Aside0.mk (blk_grown (g := gb375) (o := .cells #[.int .i64 a0_0, .slice A0_1 l0_1.length c0_1, .slice A0_2 l0_2.length c0_2] 29 (0, 0)) kz hg (Kd.S_ne HO_4.out BK375.out (by decide))); have n2_ := Aside0.mk ((by rw [hw]; exact below_set (HB.out) GB36.out : Below w.heap.size w w38)); clear HO_4; clear BK375; clear HB; clear HO_8; have HO_4 := n0_; have BK375 := n1_; have HB := n2_; clear n0_ n1_ n2_; clear hg hw hp_))
                     repeat (go_quiet (first | ((with_reducible refine gate_store (t := 97) (p := 59) rfl ?_); (try (rw [drewN_self wr]; generalize hq_ : World.drewN wr _ = wr; have n0_ := Aside0.mk (Kd.S_at hq_ HO_4.out); have n1_ := Aside0.mk (blk_at hq_ BK375.out); have n2_ := Aside0.mk (below_at hq_ HB.out); clear hq_ HO_4 BK375 HB; have HO_4 := n0_; have BK375 := n1_; have HB := n2_; clear n0_ n1_ n2_; (try (have HX37 := Aside0.mk (show Kd.S (Kd.slice 4 Kd.bool) 97 wr w.heap.size (fun k_ => ((fun _ => True)) k_ ∧ ¬ ((fun k_ => some k_ = (v387 : Value).ownBlock)) k_) (.slice (some ⟨go36, 0, none⟩) x4_3.length co23) x4_3 from (by (with_reducible repeat (first | apply Kd.S_alloc | apply Kd.S_drewN | apply Kd.S_drew)); exact Kd.S_mono HO_4.out (fun k_ hk => ⟨trivial, fun e_ => hk e_⟩))))); (try (obtain ⟨oki37, ce37, hcl37, hM37, hcc37, hfr37, hoki37, hH37⟩ := Kd.S_elem HX37.out [] (x7_3 : Int) (of_decide_eq_true az) (by have h_ : (x7_3 : Int) < ((x4_3.length : Int) : Int) := of_decide_eq_true az; first | exact h_ | (have e_ := (Kd.S_reads' HO_4.out).1; omega) | simpa using h_))); (try (obtain ⟨ve37_0, rfl, ge37_0⟩ := hM37)); (try (have HP37 := Kd.S_seg hH37 (of_decide_eq_true az) (by have h_ : (x7_3 : Int) < ((x4_3.length : Int) : Int) := of_decide_eq_true az; first | exact h_ | (have e_ := (Kd.S_reads' HO_4.out).1; omega) | simpa using h_) (seg := [v387]) (j := 0) (show 1 ≤ 1 from by decide) (x' := t386) (Kd.M_row (Kd.R_mono (Kd.R_tight rfl (Kd.R_mono (ok' := fun k_ => ((fun _ => True)) k_ ∧ k_ ≠ go36) (Kd.R_apart' (HO_8.out) (Kd.S_typed HO_4.out) (by decide)) (fun k_ hk => ⟨trivial, fun e_ => (hk.2) (by rw [e_]; rfl)⟩))) (fun _ h_ => Or.inr (h_)))) (fun _ hk => hk) (fun k_ hk_ => ((Kd.R_mono (ok' := fun k_ => ((fun _ => True)) k_ ∧ k_ ≠ go36) (Kd.R_apart' (HO_8.out) (Kd.S_typed HO_4.out) (by decide)) (fun k_ hk => ⟨trivial, fun e_ => (hk.2) (by rw [e_]; rfl)⟩))).1 k_ hk_.symm))); (try (have hx37_0 := hcc37 0 _ rfl)); (try (try simp only [show ((Kd.slice 4 Kd.bool)).sz = 1 from rfl, Nat.mul_one, Nat.add_zero] at hx37_0)); (try (have hf37_0 := hfr37 0)); (try (try simp only [show ((Kd.slice 4 Kd.bool)).sz = 1 from rfl, Nat.mul_one, Nat.add_zero] at hf37_0)); (try (clear hcl37 hcc37 hfr37 hM37 hoki37 hH37)); (try (try simp only [show ((Kd.slice 4 Kd.bool)).sz = 1 from rfl, Nat.mul_one, Nat.add_zero] at HP37)))); (try have st37_0 := fun (a_ : Addr) (m_ : Mode) (W_ : World) => run_store Try.prog W_ a_ v387 m_ (Kd.R_val HO_8.out).2); refine store_event (t := 97) (p := 59) (v := ?vo_w38) (w1 := (wr.setCell ⟨go36, (x7_3 : Int).toNat, none⟩ (v387))) ?hg ?ho ?hn ?hr ?_; (case ho => rfl); (case hg => rfl); (case hn => rfl); (case hr => first | (go_simp; done) | (go_simp; rfl) | (obtain ⟨Av_, cv_, ev_⟩ := Kd.R_slice HO_8.out; (try clear st37_0); (try clear st43_0); subst ev_; first | (go_simp; done) | (go_simp; rfl))); intro w38 hw; have hg : wr.grownBy w38 (some go36) := (by rw [hw]; exact HP37.2); have hp_ : Kd.S (Kd.slice 4 Kd.bool) 97 w38 w.heap.size (fun _ => True) (.slice (some ⟨go36, 0, none⟩) x4_3.length co23) y392 := (by rw [hw, Ny392.out]; exact HP37.1); clear HP37; (try clear st37_0); have n0_ := Aside0.mk (hp_); have n1_ := Aside0.mk (blk_grown (g := gb375) (o := .cells #[.int .i64 a0_0, .slice A0_1 l0_1.length c0_1, .slice A0_2 l0_2.length c0_2] 29 (0, 0)) kz hg (Kd.S_ne HO_4.out BK375.out (by decide))); have n2_ := Aside0.mk ((by rw [hw]; exact below_set (HB.out) GB36.out : Below w.heap.size w w38)); clear HO_4; clear BK375; clear HB; clear HO_8; have HO_4 := n0_; have BK375 := n1_; have HB := n2_; clear n0_ n1_ n2_; clear hg hw hp_)); try go_wp2_with (first | ((with_reducible refine gate_store (t := 97) (p := 59) rfl ?_); (try (rw [drewN_self wr]; generalize hq_ : World.drewN wr _ = wr; have n0_ := Aside0.mk (Kd.S_at hq_ HO_4.out); have n1_ := Aside0.mk (blk_at hq_ BK375.out); have n2_ := Aside0.mk (below_at hq_ HB.out); clear hq_ HO_4 BK375 HB; have HO_4 := n0_; have BK375 := n1_; have HB := n2_; clear n0_ n1_ n2_; (try (have HX37 := Aside0.mk (show Kd.S (Kd.slice 4 Kd.bool) 97 wr w.heap.size (fun k_ => ((fun _ => True)) k_ ∧ ¬ ((fun k_ => some k_ = (v387 : Value).ownBlock)) k_) (.slice (some ⟨go36, 0, none⟩) x4_3.length co23) x4_3 from (by (with_reducible repeat (first | apply Kd.S_alloc | apply Kd.S_drewN | apply Kd.S_drew)); exact Kd.S_mono HO_4.out (fun k_ hk => ⟨trivial, fun e_ => hk e_⟩))))); (try (obtain ⟨oki37, ce37, hcl37, hM37, hcc37, hfr37, hoki37, hH37⟩ := Kd.S_elem HX37.out [] (x7_3 : Int) (of_decide_eq_true az) (by have h_ : (x7_3 : Int) < ((x4_3.length : Int) : Int) := of_decide_eq_true az; first | exact h_ | (have e_ := (Kd.S_reads' HO_4.out).1; omega) | simpa using h_))); (try (obtain ⟨ve37_0, rfl, ge37_0⟩ := hM37)); (try (have HP37 := Kd.S_seg hH37 (of_decide_eq_true az) (by have h_ : (x7_3 : Int) < ((x4_3.length : Int) : Int) := of_decide_eq_true az; first | exact h_ | (have e_ := (Kd.S_reads' HO_4.out).1; omega) | simpa using h_) (seg := [v387]) (j := 0) (show 1 ≤ 1 from by decide) (x' := t386) (Kd.M_row (Kd.R_mono (Kd.R_tight rfl (Kd.R_mono (ok' := fun k_ => ((fun _ => True)) k_ ∧ k_ ≠ go36) (Kd.R_apart' (HO_8.out) (Kd.S_typed HO_4.out) (by decide)) (fun k_ hk => ⟨trivial, fun e_ => (hk.2) (by rw [e_]; rfl)⟩))) (fun _ h_ => Or.inr (h_)))) (fun _ hk => hk) (fun k_ hk_ => ((Kd.R_mono (ok' := fun k_ => ((fun _ => True)) k_ ∧ k_ ≠ go36) (Kd.R_apart' (HO_8.out) (Kd.S_typed HO_4.out) (by decide)) (fun k_ hk => ⟨trivial, fun e_ => (hk.2) (by rw [e_]; rfl)⟩))).1 k_ hk_.symm))); (try (have hx37_0 := hcc37 0 _ rfl)); (try (try simp only [show ((Kd.slice 4 Kd.bool)).sz = 1 from rfl, Nat.mul_one, Nat.add_zero] at hx37_0)); (try (have hf37_0 := hfr37 0)); (try (try simp only [show ((Kd.slice 4 Kd.bool)).sz = 1 from rfl, Nat.mul_one, Nat.add_zero] at hf37_0)); (try (clear hcl37 hcc37 hfr37 hM37 hoki37 hH37)); (try (try simp only [show ((Kd.slice 4 Kd.bool)).sz = 1 from rfl, Nat.mul_one, Nat.add_zero] at HP37)))); (try have st37_0 := fun (a_ : Addr) (m_ : Mode) (W_ : World) => run_store Try.prog W_ a_ v387 m_ (Kd.R_val HO_8.out).2); refine store_event (t := 97) (p := 59) (v := ?vo_w38) (w1 := (wr.setCell ⟨go36, (x7_3 : Int).toNat, none⟩ (v387))) ?hg ?ho ?hn ?hr ?_; (case ho => rfl); (case hg => rfl); (case hn => rfl); (case hr => first | (go_simp; done) | (go_simp; rfl) | (obtain ⟨Av_, cv_, ev_⟩ := Kd.R_slice HO_8.out; (try clear st37_0); (try clear st43_0); subst ev_; first | (go_simp; done) | (go_simp; rfl))); intro w38 hw; have hg : wr.grownBy w38 (some go36) := (by rw [hw]; exact HP37.2); have hp_ : Kd.S (Kd.slice 4 Kd.bool) 97 w38 w.heap.size (fun _ => True) (.slice (some ⟨go36, 0, none⟩) x4_3.length co23) y392 := (by rw [hw, Ny392.out]; exact HP37.1); clear HP37; (try clear st37_0); have n0_ := Aside0.mk (hp_); have n1_ := Aside0.mk (blk_grown (g := gb375) (o := .cells #[.int .i64 a0_0, .slice A0_1 l0_1.length c0_1, .slice A0_2 l0_2.length c0_2] 29 (0, 0)) kz hg (Kd.S_ne HO_4.out BK375.out (by decide))); have n2_ := Aside0.mk ((by rw [hw]; exact below_set (HB.out) GB36.out : Below w.heap.size w w38)); clear HO_4; clear BK375; clear HB; clear HO_8; have HO_4 := n0_; have BK375 := n1_; have HB := n2_; clear n0_ n1_ n2_; clear hg hw hp_)))
                     go_roundg k4
                     case measure => have := HK1.out; have := HK2.out; have := HK3.out; have := HK4.out; omega
                     case rel => exact ⟨(y392), (x6_4), (wrap64 (x7_3 - 1)), sz_, sz_, H', ⟨by have := HK1.out; have := HK2.out; have := HK3.out; have := HK4.out; omega⟩, ⟨by (with_reducible repeat (first | apply Kd.S_alloc | apply Kd.S_drewN | apply Kd.S_drew)); exact HO_4.out⟩, ⟨ kz⟩, ⟨ bz⟩⟩
                   · rw [if_neg c35] at H
                     exact absurd H (by simp)
                 · rw [if_neg c34] at H
                   exact absurd H (by simp)
           · rw [if_neg c20] at H
             have c20b0 : decide (0 ≤ x7_3) = false := decide_eq_false c20
             clear c20
             have H' := Aside0.mk H
             clear H
             go_wp2
             repeat (go_quiet (fail); try go_wp2)
             go_roundg k3
             case measure => have := HK1.out; have := HK2.out; have := HK3.out; omega
             case rel => exact ⟨(x4_3), (x6_3), sz_, H', ⟨by have := HK1.out; have := HK2.out; have := HK3.out; omega⟩, ⟨by (with_reducible repeat (first | apply Kd.S_alloc | apply Kd.S_drewN | apply Kd.S_drew)); exact HO_4.out⟩, ⟨ kz⟩, ⟨ bz⟩⟩
       · replace c18 := Bool.eq_false_iff.mpr c18
         subst c18
         have H1 : (some x4_2) = some r := by rw [if_neg (show ¬ (false = true) by decide)] at H; exact H
         clear H
         have H := H1
         clear H1
         obtain rfl := Option.some.inj H
         go_wp2
         repeat (go_quiet (fail); try go_wp2)
         go_ret
         exact ⟨_, by first | rfl | (simp [errW_none, errW_some] <;> rfl) | (simp [*, errW_none, errW_some] <;> rfl), by (with_reducible repeat (first | apply Kd.S_alloc | apply Kd.S_drewN | apply Kd.S_drew)); exact HO_4.out, bz⟩

end Go.Proofs.Ythegbhfoleiegaa.All

