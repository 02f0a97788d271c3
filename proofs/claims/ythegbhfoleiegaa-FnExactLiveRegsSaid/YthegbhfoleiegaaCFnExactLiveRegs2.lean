/- Part 2 of the proof of FnExactLiveRegs: functions of the translation with what they return, and plain laws of these. Written by programs of this session over the kit's print, and by hand. -/
import Derived.Test.YthegbhfoleiegaaProg
import Derived.Test.YthegbhfoleiegaaCFnExactLiveRegsWApart
import Derived.Test.YthegbhfoleiegaaCFnExactLiveRegsWArr
import Derived.Test.YthegbhfoleiegaaCFnExactLiveRegsWAt
import Derived.Test.YthegbhfoleiegaaCFnExactLiveRegsWFoot
import Derived.Test.YthegbhfoleiegaaCFnExactLiveRegsWFootNe
import Derived.Test.YthegbhfoleiegaaCFnExactLiveRegsWGuard
import Derived.Test.YthegbhfoleiegaaCFnExactLiveRegsWInv
import Derived.Test.YthegbhfoleiegaaCFnExactLiveRegsWKept
import Derived.Test.YthegbhfoleiegaaCFnExactLiveRegsWLast
import Derived.Test.YthegbhfoleiegaaCFnExactLiveRegsWMore
import Derived.Test.YthegbhfoleiegaaCFnExactLiveRegsWN
import Derived.Test.YthegbhfoleiegaaCFnExactLiveRegsWNEv
import Derived.Test.YthegbhfoleiegaaCFnExactLiveRegsWQPut
import Derived.Test.YthegbhfoleiegaaCFnExactLiveRegsWRepsOne
import Derived.Test.YthegbhfoleiegaaCFnExactLiveRegsWShare
import Derived.Test.YthegbhfoleiegaaCFnExactLiveRegsWTab
import Derived.Test.YthegbhfoleiegaaCFnExactLiveRegsWWords
import Derived.Test.YthegbhfoleiegaaCFnExactLiveRegsWZeros
import Derived.Below
import Derived.Deep.Draws
import Derived.Deep.AppendLies
import Derived.Maps.AppendAt
import Derived.OwnWalk
import Derived.Laws.BytesArg
import Derived.Laws.MakeOwn
import Derived.Laws.OwnMore
import Derived.Deep.OwnRows
import Derived.Tactics
import Derived.Lib.ConvBytes
import Derived.Laws.Slices
import Derived.WalkKit
import Derived.KernelRfl
import Derived.RowKit3
import Derived.Deep.LoopGhost
import Derived.Deep.QuietTactic
import Derived.BigQuiet
import Derived.WideLaws
import Derived.Deep.DeepCutAuto
import Derived.Deep.CutBlock
import Derived.Deep.RegionHeld3
import Derived.Laws.Rows
import Derived.Lib.AppendStr
import Derived.ArgAppend
import Derived.Laws.IdiomCopy
import Derived.OrdersHeld
import Derived.Laws.BitsLemmas
import Derived.RowKit
import Derived.Laws.CopyOwn
import Derived.Maps.OwnSet
import Derived.Maps.OwnOps
import Derived.Maps.RangeWalk
import Derived.Shelf.GgSortFunc.Whole
import Derived.Shelf.GgSortFunc.Tiny
import Derived.Sort.OwnSortedInts
import Derived.Lib.RowBridge
import Derived.Lib.SortBridge
import Derived.Sort.LotA
import Derived.Deep.Slices
import Derived.ChangeArms
import Derived.ProofKit
import Derived.OpenShut
import Derived.ShutString
import Derived.ChangeOld
import Derived.SizedLaws
import Derived.Test.YthegbhfoleiegaaCFnExactLiveRegs1
namespace Go.Proofs.Ythegbhfoleiegaa.All
open Go.RowKit Go.Proofs.YthegbhfoleiegaaW.PrintWords Go.Proofs.YthegbhfoleiegaaW.PrintLast Go.Proofs.YthegbhfoleiegaaW.PrintMore
attribute [local go_sem] max2_int min2_int max_two min_two max_three min_three max_four min_four   -- for this text's walks alone
set_option linter.unusedVariables false
set_option linter.unusedSimpArgs false

mutual
def spec_Reads.j0 : Nat → List Int → Int → Int → Int → Int → Int → Int → ByteArray → List Int → Option (List Int)
 | 0, _, _, _, _, _, _, _, _, _ => none
 | k + 1, x3, x178000, x178001, x178002, x178003, x178004, x178005, x178006, x178007 => if x178003 ≥ 0 then (if x3.length < 17592186044416 then (spec_Reads.j1 k (x3 ++ [x178003]) x178000 x178001 x178002 x178003 x178004 x178005 x178006 x178007) else (none)) else (spec_Reads.j1 k x3 x178000 x178001 x178002 x178003 x178004 x178005 x178006 x178007)
def spec_Reads.j1 : Nat → List Int → Int → Int → Int → Int → Int → Int → ByteArray → List Int → Option (List Int)
 | 0, _, _, _, _, _, _, _, _, _ => none
 | k + 1, x3, x178000, x178001, x178002, x178003, x178004, x178005, x178006, x178007 => if x178004 ≥ 0 then (if x178000 = 20 then (spec_Reads.j2 k x3 false x178000 x178001 x178002 x178003 x178004 x178005 x178006 x178007) else (if x178000 = 21 then (spec_Reads.j2 k x3 false x178000 x178001 x178002 x178003 x178004 x178005 x178006 x178007) else (spec_Reads.j2 k x3 (x178000 != 46) x178000 x178001 x178002 x178003 x178004 x178005 x178006 x178007))) else (spec_Reads.j2 k x3 false x178000 x178001 x178002 x178003 x178004 x178005 x178006 x178007)
def spec_Reads.j2 : Nat → List Int → Bool → Int → Int → Int → Int → Int → Int → ByteArray → List Int → Option (List Int)
 | 0, _, _, _, _, _, _, _, _, _, _ => none
 | k + 1, x3, x39, x178000, x178001, x178002, x178003, x178004, x178005, x178006, x178007 => if x39 = true then (if x3.length < 17592186044416 then (spec_Reads.j3 k (x3 ++ [x178004]) x178000 x178001 x178002 x178003 x178004 x178005 x178006 x178007) else (none)) else (spec_Reads.j3 k x3 x178000 x178001 x178002 x178003 x178004 x178005 x178006 x178007)
def spec_Reads.j3 : Nat → List Int → Int → Int → Int → Int → Int → Int → ByteArray → List Int → Option (List Int)
 | 0, _, _, _, _, _, _, _, _, _ => none
 | k + 1, x3, x178000, x178001, x178002, x178003, x178004, x178005, x178006, x178007 => spec_Reads.l0 k x3 0 x178000 x178001 x178002 x178003 x178004 x178005 x178006 x178007
def spec_Reads.l0 : Nat → List Int → Int → Int → Int → Int → Int → Int → Int → ByteArray → List Int → Option (List Int)
 | 0, _, _, _, _, _, _, _, _, _, _ => none
 | k + 1, x3, x4, x178000, x178001, x178002, x178003, x178004, x178005, x178006, x178007 => if x4 < (x178007.length : Int) then (if 0 ≤ x4 then (if (rd x178007 x4) ≥ 0 then (if x3.length < 17592186044416 then (spec_Reads.l0 k (x3 ++ [rd x178007 x4]) (wrap64 (x4 + 1)) x178000 x178001 x178002 x178003 x178004 x178005 x178006 x178007) else (none)) else (spec_Reads.l0 k x3 (wrap64 (x4 + 1)) x178000 x178001 x178002 x178003 x178004 x178005 x178006 x178007)) else (none)) else (some x3)
end
def spec_Reads.f (k : Nat) (a0_0 : Int) (a0_1 : Int) (a0_2 : Int) (a0_3 : Int) (a0_4 : Int) (a0_5 : Int) (a0_6 : ByteArray) (l0_7 : List Int) : Option (List Int) := (some (([] : List Int) : List Int)).bind fun y178 => (if a0_2 ≥ 0 then (if y178.length < 17592186044416 then (spec_Reads.j0 k (y178 ++ [a0_2]) a0_0 a0_1 a0_2 a0_3 a0_4 a0_5 a0_6 l0_7) else (none)) else (spec_Reads.j0 k y178 a0_0 a0_1 a0_2 a0_3 a0_4 a0_5 a0_6 l0_7))
set_option maxHeartbeats 8000000 in
set_option maxRecDepth 100000 in
theorem spec_Reads.calls (k : Nat) (a0_0 : Int) (a0_1 : Int) (a0_2 : Int) (a0_3 : Int) (a0_4 : Int) (a0_5 : Int) (a0_6 : ByteArray) (A0_7 : Option Addr) (c0_7 : Nat) (l0_7 : List Int) (r : List Int) (w : World) (hr0_7 : Kd.C (Kd.int .i64) w A0_7 l0_7.length l0_7) (hc0_7 : l0_7.length ≤ c0_7) (h : spec_Reads.f k a0_0 a0_1 a0_2 a0_3 a0_4 a0_5 a0_6 l0_7 = some r) :
 Calls Try.prog 116 #[.agg #[.int .i64 a0_0, .int .i64 a0_1, .int .i64 a0_2, .int .i64 a0_3, .int .i64 a0_4, .int .i64 a0_5, .string a0_6, .slice A0_7 l0_7.length c0_7]] w fun e w' => ∃ v0_ : Value, e = .returned (v0_) ∧ Kd.R (Kd.int .i64) 2 w' w.heap.size (fun _ => True) v0_ r ∧ Below w.heap.size w w' := by
 have hu87 := Try.underlying87
 have HR0_7 := Aside0.mk hr0_7
 have HC0_7 := Aside0.mk hc0_7
 clear hr0_7 hc0_7
 have HB := Aside0.mk (Below.refl w.heap.size w)
 have H : ((some (([] : List Int) : List Int)).bind fun y178 => (if a0_2 ≥ 0 then (if y178.length < 17592186044416 then (spec_Reads.j0 k (y178 ++ [a0_2]) a0_0 a0_1 a0_2 a0_3 a0_4 a0_5 a0_6 l0_7) else (none)) else (spec_Reads.j0 k y178 a0_0 a0_1 a0_2 a0_3 a0_4 a0_5 a0_6 l0_7))) = some r := h
 clear h
 obtain ⟨y178, hy178⟩ : ∃ y_ : List Int, y_ = (([] : List Int)) := ⟨_, rfl⟩
 replace H : (if a0_2 ≥ 0 then (if y178.length < 17592186044416 then (spec_Reads.j0 k (y178 ++ [a0_2]) a0_0 a0_1 a0_2 a0_3 a0_4 a0_5 a0_6 l0_7) else (none)) else (spec_Reads.j0 k y178 a0_0 a0_1 a0_2 a0_3 a0_4 a0_5 a0_6 l0_7)) = some r := by first | (rw [hy178]; with_reducible exact H) | (have H2_ := (Option.bind_some _ _).symm.trans H; rw [hy178]; with_reducible exact H2_) | (have H2_ := (Option.bind_some _ _).symm.trans H; with_reducible exact H2_) | with_reducible exact H | (rw [hy178]; exact H) | exact H
 have Ny178 := Aside0.mk hy178
 clear hy178
 have HC2 := Aside0.mk H
 clear H
 go_enter Try.func116, Try.ntmps116
 go_upto_if 8 with (first | ((with_reducible refine gate_dst (N := 1) rfl ?_); refine box_event ?hg (N := 1) ?hd (cs := #[.int .i64 a0_0, .int .i64 a0_1, .int .i64 a0_2, .int .i64 a0_3, .int .i64 a0_4, .int .i64 a0_5, .string a0_6, .slice A0_7 l0_7.length c0_7]) (t := 87) ?hr ?_; (case hd => rfl); (case hg => rfl); (case hr => first | (go_simp; done) | (go_simp; rfl)); intro gb177 hg w3 hbox hb; have n0_ := Aside0.mk (below_step bz hb); have n1_ := Aside0.mk (hbox); have n2_ := Aside0.mk ((by rw [hg]; exact (below_size bz) : w.heap.size ≤ gb177)); have n3_ := Aside0.mk ((by rw [hg]; exact (below_size bz) : w.heap.size ≤ gb177)); clear HB; have HB := n0_; have BK177 := n1_; have GW177 := n2_; have GE177 := n3_; clear n0_ n1_ n2_ n3_; clear hb hbox hg) | ((with_reducible refine gate_dst (N := 5) rfl ?_); refine Kd.R_lit (Kd.int .i64) _ 2 ?hg (N := 5) ?hd (xs := ([] : List Int)) (inner := []) (ok := fun _ => True) (okp := fun _ => True) ?hr ?hp (fun _ hk => hk) trivial (Below.refl _ _) (Nat.le_refl _) (by simp) ?_; (case hd => rfl); (case hg => rfl); (case hr => first | (go_simp; done) | (go_simp; rfl)); (case hp => exact (Reps.none _ _)); intro v179 w4 ho5 hb hg_ hnew_; clear hg_ hnew_; (first | rw [← Ny178.out] at ho5 | (simp only [Int.reduceToNat] at ho5; rw [← Ny178.out] at ho5)); have n0_ := Aside0.mk (Kd.R_lower ho5 (below_size bz)); have n1_ := Aside0.mk (blk_below (g := gb177) (o := .cells #[.int .i64 a0_0, .int .i64 a0_1, .int .i64 a0_2, .int .i64 a0_3, .int .i64 a0_4, .int .i64 a0_5, .string a0_6, .slice A0_7 l0_7.length c0_7] 87 (0, 0)) kz hb); have n2_ := Aside0.mk (below_step bz hb); clear BK177; clear HB; have HO180 := n0_; have BK177 := n1_; have HB := n2_; clear n0_ n1_ n2_; clear hb ho5; have hcz6_0 : w4.cell? ⟨gb177, 0, none⟩ = some (.int .i64 a0_0) := (blk_cell BK177.out 0).trans rfl; have hcz6_1 : w4.cell? ⟨gb177, 1, none⟩ = some (.int .i64 a0_1) := (blk_cell BK177.out 1).trans rfl; have hcz6_2 : w4.cell? ⟨gb177, 2, none⟩ = some (.int .i64 a0_2) := (blk_cell BK177.out 2).trans rfl; have hcz6_3 : w4.cell? ⟨gb177, 3, none⟩ = some (.int .i64 a0_3) := (blk_cell BK177.out 3).trans rfl; have hcz6_4 : w4.cell? ⟨gb177, 4, none⟩ = some (.int .i64 a0_4) := (blk_cell BK177.out 4).trans rfl; have hcz6_5 : w4.cell? ⟨gb177, 5, none⟩ = some (.int .i64 a0_5) := (blk_cell BK177.out 5).trans rfl; have hcz6_6 : w4.cell? ⟨gb177, 6, none⟩ = some (.string a0_6) := (blk_cell BK177.out 6).trans rfl; have hcz6_7 : w4.cell? ⟨gb177, 7, none⟩ = some (.slice A0_7 l0_7.length c0_7) := (blk_cell BK177.out 7).trans rfl; have hfz6_0 := blk_frozen BK177.out 0; have hfz6_1 := blk_frozen BK177.out 1; have hfz6_2 := blk_frozen BK177.out 2; have hfz6_3 := blk_frozen BK177.out 3; have hfz6_4 := blk_frozen BK177.out 4; have hfz6_5 := blk_frozen BK177.out 5; have hfz6_6 := blk_frozen BK177.out 6; have hfz6_7 := blk_frozen BK177.out 7))
 (try simp only [Act.put, sx1, sx2, sx3])
 go_cut [3] (fun v3 wc => ∃ (kq : Nat) (x3_1 : List Int), Aside0 (spec_Reads.j0 kq x3_1 a0_0 a0_1 a0_2 a0_3 a0_4 a0_5 a0_6 l0_7 = some r) ∧ Aside0 (kq ≤ k) ∧ Aside0 (Kd.R (Kd.int .i64) 2 wc w.heap.size (fun _ => True) v3 x3_1) ∧ Aside0 (wc.heap[gb177]? = some (.cells #[.int .i64 a0_0, .int .i64 a0_1, .int .i64 a0_2, .int .i64 a0_3, .int .i64 a0_4, .int .i64 a0_5, .string a0_6, (.slice A0_7 l0_7.length c0_7)] 87 (0, 0))) ∧ Aside0 (Below w.heap.size w wc))
 case first =>
  have H := HC2.out
  clear HC2
  by_cases c7 : a0_2 ≥ 0
  · rw [if_pos c7] at H
    have c7b0 : decide (0 ≤ a0_2) = true := decide_eq_true c7
    clear c7
    (first | rw [c7b0] | (simp only [i64_w, i32_w]; rw [c7b0]) | skip)
    by_cases c8 : y178.length < 17592186044416
    · rw [if_pos c8] at H
      have LMc8 := Aside0.mk c8
      clear c8
      obtain ⟨y181, hy181⟩ : ∃ y_ : List Int, y_ = (y178 ++ [a0_2]) := ⟨_, rfl⟩
      replace H : (spec_Reads.j0 k y181 a0_0 a0_1 a0_2 a0_3 a0_4 a0_5 a0_6 l0_7) = some r := by first | (rw [hy181]; with_reducible exact H) | (have H2_ := (Option.bind_some _ _).symm.trans H; rw [hy181]; with_reducible exact H2_) | (have H2_ := (Option.bind_some _ _).symm.trans H; with_reducible exact H2_) | with_reducible exact H | (rw [hy181]; exact H) | exact H
      have Ny181 := Aside0.mk hy181
      clear hy181
      have H' := Aside0.mk H
      clear H
      have hcz9_0 : w4.cell? ⟨gb177, 0, none⟩ = some (.int .i64 a0_0) := (blk_cell BK177.out 0).trans rfl
      have hcz9_1 : w4.cell? ⟨gb177, 1, none⟩ = some (.int .i64 a0_1) := (blk_cell BK177.out 1).trans rfl
      have hcz9_2 : w4.cell? ⟨gb177, 2, none⟩ = some (.int .i64 a0_2) := (blk_cell BK177.out 2).trans rfl
      have hcz9_3 : w4.cell? ⟨gb177, 3, none⟩ = some (.int .i64 a0_3) := (blk_cell BK177.out 3).trans rfl
      have hcz9_4 : w4.cell? ⟨gb177, 4, none⟩ = some (.int .i64 a0_4) := (blk_cell BK177.out 4).trans rfl
      have hcz9_5 : w4.cell? ⟨gb177, 5, none⟩ = some (.int .i64 a0_5) := (blk_cell BK177.out 5).trans rfl
      have hcz9_6 : w4.cell? ⟨gb177, 6, none⟩ = some (.string a0_6) := (blk_cell BK177.out 6).trans rfl
      have hcz9_7 : w4.cell? ⟨gb177, 7, none⟩ = some (.slice A0_7 l0_7.length c0_7) := (blk_cell BK177.out 7).trans rfl
      have hfz9_0 := blk_frozen BK177.out 0
      have hfz9_1 := blk_frozen BK177.out 1
      have hfz9_2 := blk_frozen BK177.out 2
      have hfz9_3 := blk_frozen BK177.out 3
      have hfz9_4 := blk_frozen BK177.out 4
      have hfz9_5 := blk_frozen BK177.out 5
      have hfz9_6 := blk_frozen BK177.out 6
      have hfz9_7 := blk_frozen BK177.out 7
      go_wp2_with (first | ((with_reducible refine gate_builtin (b := .append) (xs := #[.tmp 9, .tmp 12]) rfl ?_); at_builtin; refine Kd.R_append (Kd.int .i64) (w0 := w) w.heap.size rfl (.tmp 9) (.tmp 12) 22 2 (.int .i64 0) 8 rfl Try.underlying22 info2 rfl (by decide) (by omega) v179 y178 a0_2 [.int .i64 a0_2] (fun _ => True) (fun _ => False) rfl rfl ?aP (fun _ hk => hk.elim) ?aF ?aO ?aB ?aS ?aL ?_; (case aP => exact rfl); (case aB => exact bz); (case aF => exact (fun _ _ => trivial)); (case aO => exact (rz HO180.out)); (case aS => exact (below_size bz)); (case aL => have := LMc8.out; omega); intro v182 w10 ho hb hg hat; rw [← Ny181.out] at ho; have n0_ := Aside0.mk (blk_grown (g := gb177) (o := .cells #[.int .i64 a0_0, .int .i64 a0_1, .int .i64 a0_2, .int .i64 a0_3, .int .i64 a0_4, .int .i64 a0_5, .string a0_6, .slice A0_7 l0_7.length c0_7] 87 (0, 0)) kz hg (Kd.R_ne HO180.out BK177.out (by decide))); have n1_ := Aside0.mk (hb); have n2_ := Aside0.mk (ho); clear BK177; clear HB; clear HO180; have BK177 := n0_; have HB := n1_; have HO183 := n2_; clear n0_ n1_ n2_; clear ho hb hg hat))
      go_meet
      case rel => exact ⟨_, (y181), H', ⟨by first | omega | exact Nat.le_refl _⟩, ⟨by (with_reducible repeat (first | apply Kd.R_alloc | apply Kd.R_drewN | apply Kd.R_drew)); exact HO183.out⟩, ⟨ kz⟩, ⟨ bz⟩⟩
    · rw [if_neg c8] at H
      exact absurd H (by simp)
  · rw [if_neg c7] at H
    have c7b0 : decide (0 ≤ a0_2) = false := decide_eq_false c7
    clear c7
    (first | rw [c7b0] | (simp only [i64_w, i32_w]; rw [c7b0]) | skip)
    have H' := Aside0.mk H
    clear H
    go_wp2
    go_meet
    case rel => exact ⟨_, (y178), H', ⟨by first | omega | exact Nat.le_refl _⟩, ⟨by (with_reducible repeat (first | apply Kd.R_alloc | apply Kd.R_drewN | apply Kd.R_drew)); exact HO180.out⟩, ⟨ kz⟩, ⟨ bz⟩⟩
 case rest =>
  clear HC2
  try clear c1
  try clear p2
  try clear c7
  try clear c7b0
  try clear c8
  try clear hcz6_0
  try clear hcz6_1
  try clear hcz6_2
  try clear hcz6_3
  try clear hcz6_4
  try clear hcz6_5
  try clear hcz6_6
  try clear hcz6_7
  try clear hcz9_0
  try clear hcz9_1
  try clear hcz9_2
  try clear hcz9_3
  try clear hcz9_4
  try clear hcz9_5
  try clear hcz9_6
  try clear hcz9_7
  try clear hfz6_0
  try clear hfz6_1
  try clear hfz6_2
  try clear hfz6_3
  try clear hfz6_4
  try clear hfz6_5
  try clear hfz6_6
  try clear hfz6_7
  try clear hfz9_0
  try clear hfz9_1
  try clear hfz9_2
  try clear hfz9_3
  try clear hfz9_4
  try clear hfz9_5
  try clear hfz9_6
  try clear hfz9_7
  obtain ⟨kq, x3_1, HA, HJ1, HO_3, BK177, HB⟩ := hcut
  cases kq with
  | zero => exact absurd HA.out (by simp [spec_Reads.j0])
  | succ kj1 =>
   have H := HA.out
   clear HA
   simp only [spec_Reads.j0] at H
   have HC11 := Aside0.mk H
   clear H
   have hcz12_0 : wc.cell? ⟨gb177, 0, none⟩ = some (.int .i64 a0_0) := (blk_cell BK177.out 0).trans rfl
   have hcz12_1 : wc.cell? ⟨gb177, 1, none⟩ = some (.int .i64 a0_1) := (blk_cell BK177.out 1).trans rfl
   have hcz12_2 : wc.cell? ⟨gb177, 2, none⟩ = some (.int .i64 a0_2) := (blk_cell BK177.out 2).trans rfl
   have hcz12_3 : wc.cell? ⟨gb177, 3, none⟩ = some (.int .i64 a0_3) := (blk_cell BK177.out 3).trans rfl
   have hcz12_4 : wc.cell? ⟨gb177, 4, none⟩ = some (.int .i64 a0_4) := (blk_cell BK177.out 4).trans rfl
   have hcz12_5 : wc.cell? ⟨gb177, 5, none⟩ = some (.int .i64 a0_5) := (blk_cell BK177.out 5).trans rfl
   have hcz12_6 : wc.cell? ⟨gb177, 6, none⟩ = some (.string a0_6) := (blk_cell BK177.out 6).trans rfl
   have hcz12_7 : wc.cell? ⟨gb177, 7, none⟩ = some (.slice A0_7 l0_7.length c0_7) := (blk_cell BK177.out 7).trans rfl
   have hfz12_0 := blk_frozen BK177.out 0
   have hfz12_1 := blk_frozen BK177.out 1
   have hfz12_2 := blk_frozen BK177.out 2
   have hfz12_3 := blk_frozen BK177.out 3
   have hfz12_4 := blk_frozen BK177.out 4
   have hfz12_5 := blk_frozen BK177.out 5
   have hfz12_6 := blk_frozen BK177.out 6
   have hfz12_7 := blk_frozen BK177.out 7
   go_upto_if 16 with (fail)
   go_cut [3] (fun v3 wc => ∃ (kq : Nat) (x3_10 : List Int), Aside0 (spec_Reads.j1 kq x3_10 a0_0 a0_1 a0_2 a0_3 a0_4 a0_5 a0_6 l0_7 = some r) ∧ Aside0 (kq ≤ kj1) ∧ Aside0 (Kd.R (Kd.int .i64) 2 wc w.heap.size (fun _ => True) v3 x3_10) ∧ Aside0 (wc.heap[gb177]? = some (.cells #[.int .i64 a0_0, .int .i64 a0_1, .int .i64 a0_2, .int .i64 a0_3, .int .i64 a0_4, .int .i64 a0_5, .string a0_6, (.slice A0_7 l0_7.length c0_7)] 87 (0, 0))) ∧ Aside0 (Below w.heap.size w wc))
   case first =>
    have H := HC11.out
    clear HC11
    by_cases c13 : a0_3 ≥ 0
    · rw [if_pos c13] at H
      have c13b0 : decide (0 ≤ a0_3) = true := decide_eq_true c13
      clear c13
      (first | rw [c13b0] | (simp only [i64_w, i32_w]; rw [c13b0]) | skip)
      by_cases c14 : x3_1.length < 17592186044416
      · rw [if_pos c14] at H
        have LMc14 := Aside0.mk c14
        clear c14
        obtain ⟨y184, hy184⟩ : ∃ y_ : List Int, y_ = (x3_1 ++ [a0_3]) := ⟨_, rfl⟩
        replace H : (spec_Reads.j1 kj1 y184 a0_0 a0_1 a0_2 a0_3 a0_4 a0_5 a0_6 l0_7) = some r := by first | (rw [hy184]; with_reducible exact H) | (have H2_ := (Option.bind_some _ _).symm.trans H; rw [hy184]; with_reducible exact H2_) | (have H2_ := (Option.bind_some _ _).symm.trans H; with_reducible exact H2_) | with_reducible exact H | (rw [hy184]; exact H) | exact H
        have Ny184 := Aside0.mk hy184
        clear hy184
        have H' := Aside0.mk H
        clear H
        have hcz15_0 : wc.cell? ⟨gb177, 0, none⟩ = some (.int .i64 a0_0) := (blk_cell BK177.out 0).trans rfl
        have hcz15_1 : wc.cell? ⟨gb177, 1, none⟩ = some (.int .i64 a0_1) := (blk_cell BK177.out 1).trans rfl
        have hcz15_2 : wc.cell? ⟨gb177, 2, none⟩ = some (.int .i64 a0_2) := (blk_cell BK177.out 2).trans rfl
        have hcz15_3 : wc.cell? ⟨gb177, 3, none⟩ = some (.int .i64 a0_3) := (blk_cell BK177.out 3).trans rfl
        have hcz15_4 : wc.cell? ⟨gb177, 4, none⟩ = some (.int .i64 a0_4) := (blk_cell BK177.out 4).trans rfl
        have hcz15_5 : wc.cell? ⟨gb177, 5, none⟩ = some (.int .i64 a0_5) := (blk_cell BK177.out 5).trans rfl
        have hcz15_6 : wc.cell? ⟨gb177, 6, none⟩ = some (.string a0_6) := (blk_cell BK177.out 6).trans rfl
        have hcz15_7 : wc.cell? ⟨gb177, 7, none⟩ = some (.slice A0_7 l0_7.length c0_7) := (blk_cell BK177.out 7).trans rfl
        have hfz15_0 := blk_frozen BK177.out 0
        have hfz15_1 := blk_frozen BK177.out 1
        have hfz15_2 := blk_frozen BK177.out 2
        have hfz15_3 := blk_frozen BK177.out 3
        have hfz15_4 := blk_frozen BK177.out 4
        have hfz15_5 := blk_frozen BK177.out 5
        have hfz15_6 := blk_frozen BK177.out 6
        have hfz15_7 := blk_frozen BK177.out 7
        go_wp2_with (first | ((with_reducible refine gate_builtin (b := .append) (xs := #[.tmp 17, .tmp 20]) rfl ?_); at_builtin; refine Kd.R_append (Kd.int .i64) (w0 := w) w.heap.size rfl (.tmp 17) (.tmp 20) 22 2 (.int .i64 0) 8 rfl Try.underlying22 info2 rfl (by decide) (by omega) u3 x3_1 a0_3 [.int .i64 a0_3] (fun _ => True) (fun _ => False) rfl rfl ?aP (fun _ hk => hk.elim) ?aF ?aO ?aB ?aS ?aL ?_; (case aP => exact rfl); (case aB => exact bz); (case aF => exact (fun _ _ => trivial)); (case aO => exact (rz HO_3.out)); (case aS => exact (below_size bz)); (case aL => have := LMc14.out; omega); intro v185 w16 ho hb hg hat; rw [← Ny184.out] at ho; have n0_ := Aside0.mk (blk_grown (g := gb177) (o := .cells #[.int .i64 a0_0, .int .i64 a0_1, .int .i64 a0_2, .int .i64 a0_3, .int .i64 a0_4, .int .i64 a0_5, .string a0_6, .slice A0_7 l0_7.length c0_7] 87 (0, 0)) kz hg (Kd.R_ne HO_3.out BK177.out (by decide))); have n1_ := Aside0.mk (hb); have n2_ := Aside0.mk (ho); clear BK177; clear HB; clear HO_3; have BK177 := n0_; have HB := n1_; have HO186 := n2_; clear n0_ n1_ n2_; clear ho hb hg hat))
        go_meet
        case rel => exact ⟨_, (y184), H', ⟨by have := HJ1.out; first | omega | exact Nat.le_refl _⟩, ⟨by (with_reducible repeat (first | apply Kd.R_alloc | apply Kd.R_drewN | apply Kd.R_drew)); exact HO186.out⟩, ⟨ kz⟩, ⟨ bz⟩⟩
      · rw [if_neg c14] at H
        exact absurd H (by simp)
    · rw [if_neg c13] at H
      have c13b0 : decide (0 ≤ a0_3) = false := decide_eq_false c13
      clear c13
      (first | rw [c13b0] | (simp only [i64_w, i32_w]; rw [c13b0]) | skip)
      have H' := Aside0.mk H
      clear H
      go_wp2
      go_meet
      case rel => exact ⟨_, (x3_1), H', ⟨by have := HJ1.out; first | omega | exact Nat.le_refl _⟩, ⟨by (with_reducible repeat (first | apply Kd.R_alloc | apply Kd.R_drewN | apply Kd.R_drew)); exact HO_3.out⟩, ⟨ kz⟩, ⟨ bz⟩⟩
   case rest =>
    clear HC11
    try clear c1
    try clear p2
    try clear c7
    try clear c7b0
    try clear c8
    try clear c11
    try clear c13
    try clear c13b0
    try clear c14
    try clear hcz12_0
    try clear hcz12_1
    try clear hcz12_2
    try clear hcz12_3
    try clear hcz12_4
    try clear hcz12_5
    try clear hcz12_6
    try clear hcz12_7
    try clear hcz15_0
    try clear hcz15_1
    try clear hcz15_2
    try clear hcz15_3
    try clear hcz15_4
    try clear hcz15_5
    try clear hcz15_6
    try clear hcz15_7
    try clear hcz6_0
    try clear hcz6_1
    try clear hcz6_2
    try clear hcz6_3
    try clear hcz6_4
    try clear hcz6_5
    try clear hcz6_6
    try clear hcz6_7
    try clear hcz9_0
    try clear hcz9_1
    try clear hcz9_2
    try clear hcz9_3
    try clear hcz9_4
    try clear hcz9_5
    try clear hcz9_6
    try clear hcz9_7
    try clear hfz12_0
    try clear hfz12_1
    try clear hfz12_2
    try clear hfz12_3
    try clear hfz12_4
    try clear hfz12_5
    try clear hfz12_6
    try clear hfz12_7
    try clear hfz15_0
    try clear hfz15_1
    try clear hfz15_2
    try clear hfz15_3
    try clear hfz15_4
    try clear hfz15_5
    try clear hfz15_6
    try clear hfz15_7
    try clear hfz6_0
    try clear hfz6_1
    try clear hfz6_2
    try clear hfz6_3
    try clear hfz6_4
    try clear hfz6_5
    try clear hfz6_6
    try clear hfz6_7
    try clear hfz9_0
    try clear hfz9_1
    try clear hfz9_2
    try clear hfz9_3
    try clear hfz9_4
    try clear hfz9_5
    try clear hfz9_6
    try clear hfz9_7
    try clear p2
    obtain ⟨kq, x3_10, HA, HJ10, HO_3, BK177, HB⟩ := hcut
    cases kq with
    | zero => exact absurd HA.out (by simp [spec_Reads.j1])
    | succ kj10 =>
     have H := HA.out
     clear HA
     simp only [spec_Reads.j1] at H
     have HC17 := Aside0.mk H
     clear H
     go_upto_region 6 with (fail)
     go_cut [39] (fun v39 wc => ∃ (kq : Nat) (x39_16 : Bool), v39 = .bool x39_16 ∧ Aside0 (spec_Reads.j2 kq x3_10 x39_16 a0_0 a0_1 a0_2 a0_3 a0_4 a0_5 a0_6 l0_7 = some r) ∧ Aside0 (kq ≤ kj10) ∧ Aside0 (Kd.R (Kd.int .i64) 2 wc w.heap.size (fun _ => True) u3 x3_10) ∧ Aside0 (wc.heap[gb177]? = some (.cells #[.int .i64 a0_0, .int .i64 a0_1, .int .i64 a0_2, .int .i64 a0_3, .int .i64 a0_4, .int .i64 a0_5, .string a0_6, (.slice A0_7 l0_7.length c0_7)] 87 (0, 0))) ∧ Aside0 (Below w.heap.size w wc))
     case first =>
      have H := HC17.out
      clear HC17
      by_cases c18 : a0_4 ≥ 0
      · rw [if_pos c18] at H
        have c18b0 : decide (0 ≤ a0_4) = true := decide_eq_true c18
        clear c18
        (first | rw [c18b0] | (simp only [i64_w, i32_w]; rw [c18b0]) | skip)
        by_cases c19 : a0_0 = 20
        · rw [if_pos c19] at H
          have c19b0 : (a0_0 == 20) = true := beq_iff_eq.mpr c19
          have c19b1 : (a0_0 != 20) = false := bne_eq_false_iff_eq.mpr c19
          clear c19
          have H' := Aside0.mk H
          clear H
          have hcz20_0 : wc.cell? ⟨gb177, 0, none⟩ = some (.int .i64 a0_0) := (blk_cell BK177.out 0).trans rfl
          have hcz20_1 : wc.cell? ⟨gb177, 1, none⟩ = some (.int .i64 a0_1) := (blk_cell BK177.out 1).trans rfl
          have hcz20_2 : wc.cell? ⟨gb177, 2, none⟩ = some (.int .i64 a0_2) := (blk_cell BK177.out 2).trans rfl
          have hcz20_3 : wc.cell? ⟨gb177, 3, none⟩ = some (.int .i64 a0_3) := (blk_cell BK177.out 3).trans rfl
          have hcz20_4 : wc.cell? ⟨gb177, 4, none⟩ = some (.int .i64 a0_4) := (blk_cell BK177.out 4).trans rfl
          have hcz20_5 : wc.cell? ⟨gb177, 5, none⟩ = some (.int .i64 a0_5) := (blk_cell BK177.out 5).trans rfl
          have hcz20_6 : wc.cell? ⟨gb177, 6, none⟩ = some (.string a0_6) := (blk_cell BK177.out 6).trans rfl
          have hcz20_7 : wc.cell? ⟨gb177, 7, none⟩ = some (.slice A0_7 l0_7.length c0_7) := (blk_cell BK177.out 7).trans rfl
          have hfz20_0 := blk_frozen BK177.out 0
          have hfz20_1 := blk_frozen BK177.out 1
          have hfz20_2 := blk_frozen BK177.out 2
          have hfz20_3 := blk_frozen BK177.out 3
          have hfz20_4 := blk_frozen BK177.out 4
          have hfz20_5 := blk_frozen BK177.out 5
          have hfz20_6 := blk_frozen BK177.out 6
          have hfz20_7 := blk_frozen BK177.out 7
          go_wp2
          go_meet
          case rel => exact ⟨_, (false), sz_, H', ⟨by have := HJ1.out; have := HJ10.out; first | omega | exact Nat.le_refl _⟩, ⟨by (with_reducible repeat (first | apply Kd.R_alloc | apply Kd.R_drewN | apply Kd.R_drew)); exact HO_3.out⟩, ⟨ kz⟩, ⟨ bz⟩⟩
        · rw [if_neg c19] at H
          have c19b0 : (a0_0 == 20) = false := beq_eq_false_iff_ne.mpr c19
          have c19b1 : (a0_0 != 20) = true := bne_iff_ne.mpr c19
          by_cases c21 : a0_0 = 21
          · rw [if_pos c21] at H
            have c21b0 : (a0_0 == 21) = true := beq_iff_eq.mpr c21
            have c21b1 : (a0_0 != 21) = false := bne_eq_false_iff_eq.mpr c21
            clear c21
            have H' := Aside0.mk H
            clear H
            have hcz22_0 : wc.cell? ⟨gb177, 0, none⟩ = some (.int .i64 a0_0) := (blk_cell BK177.out 0).trans rfl
            have hcz22_1 : wc.cell? ⟨gb177, 1, none⟩ = some (.int .i64 a0_1) := (blk_cell BK177.out 1).trans rfl
            have hcz22_2 : wc.cell? ⟨gb177, 2, none⟩ = some (.int .i64 a0_2) := (blk_cell BK177.out 2).trans rfl
            have hcz22_3 : wc.cell? ⟨gb177, 3, none⟩ = some (.int .i64 a0_3) := (blk_cell BK177.out 3).trans rfl
            have hcz22_4 : wc.cell? ⟨gb177, 4, none⟩ = some (.int .i64 a0_4) := (blk_cell BK177.out 4).trans rfl
            have hcz22_5 : wc.cell? ⟨gb177, 5, none⟩ = some (.int .i64 a0_5) := (blk_cell BK177.out 5).trans rfl
            have hcz22_6 : wc.cell? ⟨gb177, 6, none⟩ = some (.string a0_6) := (blk_cell BK177.out 6).trans rfl
            have hcz22_7 : wc.cell? ⟨gb177, 7, none⟩ = some (.slice A0_7 l0_7.length c0_7) := (blk_cell BK177.out 7).trans rfl
            have hfz22_0 := blk_frozen BK177.out 0
            have hfz22_1 := blk_frozen BK177.out 1
            have hfz22_2 := blk_frozen BK177.out 2
            have hfz22_3 := blk_frozen BK177.out 3
            have hfz22_4 := blk_frozen BK177.out 4
            have hfz22_5 := blk_frozen BK177.out 5
            have hfz22_6 := blk_frozen BK177.out 6
            have hfz22_7 := blk_frozen BK177.out 7
            go_wp2
            go_meet
            case rel => exact ⟨_, (false), sz_, H', ⟨by have := HJ1.out; have := HJ10.out; first | omega | exact Nat.le_refl _⟩, ⟨by (with_reducible repeat (first | apply Kd.R_alloc | apply Kd.R_drewN | apply Kd.R_drew)); exact HO_3.out⟩, ⟨ kz⟩, ⟨ bz⟩⟩
          · rw [if_neg c21] at H
            have c21b0 : (a0_0 == 21) = false := beq_eq_false_iff_ne.mpr c21
            have c21b1 : (a0_0 != 21) = true := bne_iff_ne.mpr c21
            have H' := Aside0.mk H
            clear H
            have hcz23_0 : wc.cell? ⟨gb177, 0, none⟩ = some (.int .i64 a0_0) := (blk_cell BK177.out 0).trans rfl
            have hcz23_1 : wc.cell? ⟨gb177, 1, none⟩ = some (.int .i64 a0_1) := (blk_cell BK177.out 1).trans rfl
            have hcz23_2 : wc.cell? ⟨gb177, 2, none⟩ = some (.int .i64 a0_2) := (blk_cell BK177.out 2).trans rfl
            have hcz23_3 : wc.cell? ⟨gb177, 3, none⟩ = some (.int .i64 a0_3) := (blk_cell BK177.out 3).trans rfl
            have hcz23_4 : wc.cell? ⟨gb177, 4, none⟩ = some (.int .i64 a0_4) := (blk_cell BK177.out 4).trans rfl
            have hcz23_5 : wc.cell? ⟨gb177, 5, none⟩ = some (.int .i64 a0_5) := (blk_cell BK177.out 5).trans rfl
            have hcz23_6 : wc.cell? ⟨gb177, 6, none⟩ = some (.string a0_6) := (blk_cell BK177.out 6).trans rfl
            have hcz23_7 : wc.cell? ⟨gb177, 7, none⟩ = some (.slice A0_7 l0_7.length c0_7) := (blk_cell BK177.out 7).trans rfl
            have hfz23_0 := blk_frozen BK177.out 0
            have hfz23_1 := blk_frozen BK177.out 1
            have hfz23_2 := blk_frozen BK177.out 2
            have hfz23_3 := blk_frozen BK177.out 3
            have hfz23_4 := blk_frozen BK177.out 4
            have hfz23_5 := blk_frozen BK177.out 5
            have hfz23_6 := blk_frozen BK177.out 6
            have hfz23_7 := blk_frozen BK177.out 7
            go_wp2
            go_meet
            case rel => exact ⟨_, ((a0_0 != 46)), sz_, H', ⟨by have := HJ1.out; have := HJ10.out; first | omega | exact Nat.le_refl _⟩, ⟨by (with_reducible repeat (first | apply Kd.R_alloc | apply Kd.R_drewN | apply Kd.R_drew)); exact HO_3.out⟩, ⟨ kz⟩, ⟨ bz⟩⟩
      · rw [if_neg c18] at H
        have c18b0 : decide (0 ≤ a0_4) = false := decide_eq_false c18
        clear c18
        (first | rw [c18b0] | (simp only [i64_w, i32_w]; rw [c18b0]) | skip)
        have H' := Aside0.mk H
        clear H
        have hcz24_0 : wc.cell? ⟨gb177, 0, none⟩ = some (.int .i64 a0_0) := (blk_cell BK177.out 0).trans rfl
        have hcz24_1 : wc.cell? ⟨gb177, 1, none⟩ = some (.int .i64 a0_1) := (blk_cell BK177.out 1).trans rfl
        have hcz24_2 : wc.cell? ⟨gb177, 2, none⟩ = some (.int .i64 a0_2) := (blk_cell BK177.out 2).trans rfl
        have hcz24_3 : wc.cell? ⟨gb177, 3, none⟩ = some (.int .i64 a0_3) := (blk_cell BK177.out 3).trans rfl
        have hcz24_4 : wc.cell? ⟨gb177, 4, none⟩ = some (.int .i64 a0_4) := (blk_cell BK177.out 4).trans rfl
        have hcz24_5 : wc.cell? ⟨gb177, 5, none⟩ = some (.int .i64 a0_5) := (blk_cell BK177.out 5).trans rfl
        have hcz24_6 : wc.cell? ⟨gb177, 6, none⟩ = some (.string a0_6) := (blk_cell BK177.out 6).trans rfl
        have hcz24_7 : wc.cell? ⟨gb177, 7, none⟩ = some (.slice A0_7 l0_7.length c0_7) := (blk_cell BK177.out 7).trans rfl
        have hfz24_0 := blk_frozen BK177.out 0
        have hfz24_1 := blk_frozen BK177.out 1
        have hfz24_2 := blk_frozen BK177.out 2
        have hfz24_3 := blk_frozen BK177.out 3
        have hfz24_4 := blk_frozen BK177.out 4
        have hfz24_5 := blk_frozen BK177.out 5
        have hfz24_6 := blk_frozen BK177.out 6
        have hfz24_7 := blk_frozen BK177.out 7
        go_wp2
        go_meet
        case rel => exact ⟨_, (false), sz_, H', ⟨by have := HJ1.out; have := HJ10.out; first | omega | exact Nat.le_refl _⟩, ⟨by (with_reducible repeat (first | apply Kd.R_alloc | apply Kd.R_drewN | apply Kd.R_drew)); exact HO_3.out⟩, ⟨ kz⟩, ⟨ bz⟩⟩
     case rest =>
      clear HC17
      try clear c1
      try clear c2
      try clear p2
      try clear c7
      try clear c7b0
      try clear c8
      try clear c11
      try clear c13
      try clear c13b0
      try clear c14
      try clear c18
      try clear c18b0
      try clear c19
      try clear c19b0
      try clear c19b1
      try clear c21
      try clear c21b0
      try clear c21b1
      try clear hcz12_0
      try clear hcz12_1
      try clear hcz12_2
      try clear hcz12_3
      try clear hcz12_4
      try clear hcz12_5
      try clear hcz12_6
      try clear hcz12_7
      try clear hcz15_0
      try clear hcz15_1
      try clear hcz15_2
      try clear hcz15_3
      try clear hcz15_4
      try clear hcz15_5
      try clear hcz15_6
      try clear hcz15_7
      try clear hcz20_0
      try clear hcz20_1
      try clear hcz20_2
      try clear hcz20_3
      try clear hcz20_4
      try clear hcz20_5
      try clear hcz20_6
      try clear hcz20_7
      try clear hcz22_0
      try clear hcz22_1
      try clear hcz22_2
      try clear hcz22_3
      try clear hcz22_4
      try clear hcz22_5
      try clear hcz22_6
      try clear hcz22_7
      try clear hcz23_0
      try clear hcz23_1
      try clear hcz23_2
      try clear hcz23_3
      try clear hcz23_4
      try clear hcz23_5
      try clear hcz23_6
      try clear hcz23_7
      try clear hcz24_0
      try clear hcz24_1
      try clear hcz24_2
      try clear hcz24_3
      try clear hcz24_4
      try clear hcz24_5
      try clear hcz24_6
      try clear hcz24_7
      try clear hcz6_0
      try clear hcz6_1
      try clear hcz6_2
      try clear hcz6_3
      try clear hcz6_4
      try clear hcz6_5
      try clear hcz6_6
      try clear hcz6_7
      try clear hcz9_0
      try clear hcz9_1
      try clear hcz9_2
      try clear hcz9_3
      try clear hcz9_4
      try clear hcz9_5
      try clear hcz9_6
      try clear hcz9_7
      try clear hfz12_0
      try clear hfz12_1
      try clear hfz12_2
      try clear hfz12_3
      try clear hfz12_4
      try clear hfz12_5
      try clear hfz12_6
      try clear hfz12_7
      try clear hfz15_0
      try clear hfz15_1
      try clear hfz15_2
      try clear hfz15_3
      try clear hfz15_4
      try clear hfz15_5
      try clear hfz15_6
      try clear hfz15_7
      try clear hfz20_0
      try clear hfz20_1
      try clear hfz20_2
      try clear hfz20_3
      try clear hfz20_4
      try clear hfz20_5
      try clear hfz20_6
      try clear hfz20_7
      try clear hfz22_0
      try clear hfz22_1
      try clear hfz22_2
      try clear hfz22_3
      try clear hfz22_4
      try clear hfz22_5
      try clear hfz22_6
      try clear hfz22_7
      try clear hfz23_0
      try clear hfz23_1
      try clear hfz23_2
      try clear hfz23_3
      try clear hfz23_4
      try clear hfz23_5
      try clear hfz23_6
      try clear hfz23_7
      try clear hfz24_0
      try clear hfz24_1
      try clear hfz24_2
      try clear hfz24_3
      try clear hfz24_4
      try clear hfz24_5
      try clear hfz24_6
      try clear hfz24_7
      try clear hfz6_0
      try clear hfz6_1
      try clear hfz6_2
      try clear hfz6_3
      try clear hfz6_4
      try clear hfz6_5
      try clear hfz6_6
      try clear hfz6_7
      try clear hfz9_0
      try clear hfz9_1
      try clear hfz9_2
      try clear hfz9_3
      try clear hfz9_4
      try clear hfz9_5
      try clear hfz9_6
      try clear hfz9_7
      try clear p2
      obtain ⟨kq, x39_16, rfl, HA, HJ16, HO_3, BK177, HB⟩ := hcut
      cases kq with
      | zero => exact absurd HA.out (by simp [spec_Reads.j2])
      | succ kj16 =>
       have H := HA.out
       clear HA
       simp only [spec_Reads.j2] at H
       have HC25 := Aside0.mk H
       clear H
       go_upto_if 39 with (fail)
       go_cut [3] (fun v3 wc => ∃ (kq : Nat) (x3_24 : List Int), Aside0 (spec_Reads.j3 kq x3_24 a0_0 a0_1 a0_2 a0_3 a0_4 a0_5 a0_6 l0_7 = some r) ∧ Aside0 (kq ≤ kj16) ∧ Aside0 (Kd.R (Kd.int .i64) 2 wc w.heap.size (fun _ => True) v3 x3_24) ∧ Aside0 (wc.heap[gb177]? = some (.cells #[.int .i64 a0_0, .int .i64 a0_1, .int .i64 a0_2, .int .i64 a0_3, .int .i64 a0_4, .int .i64 a0_5, .string a0_6, (.slice A0_7 l0_7.length c0_7)] 87 (0, 0))) ∧ Aside0 (Below w.heap.size w wc))
       case first =>
        have H := HC25.out
        clear HC25
        by_cases c26 : x39_16 = true
        · subst c26
          have H1 : (if x3_10.length < 17592186044416 then (spec_Reads.j3 kj16 (x3_10 ++ [a0_4]) a0_0 a0_1 a0_2 a0_3 a0_4 a0_5 a0_6 l0_7) else (none)) = some r := by rw [if_pos rfl] at H; exact H
          clear H
          have H := H1
          clear H1
          by_cases c27 : x3_10.length < 17592186044416
          · rw [if_pos c27] at H
            have LMc27 := Aside0.mk c27
            clear c27
            obtain ⟨y187, hy187⟩ : ∃ y_ : List Int, y_ = (x3_10 ++ [a0_4]) := ⟨_, rfl⟩
            replace H : (spec_Reads.j3 kj16 y187 a0_0 a0_1 a0_2 a0_3 a0_4 a0_5 a0_6 l0_7) = some r := by first | (rw [hy187]; with_reducible exact H) | (have H2_ := (Option.bind_some _ _).symm.trans H; rw [hy187]; with_reducible exact H2_) | (have H2_ := (Option.bind_some _ _).symm.trans H; with_reducible exact H2_) | with_reducible exact H | (rw [hy187]; exact H) | exact H
            have Ny187 := Aside0.mk hy187
            clear hy187
            have H' := Aside0.mk H
            clear H
            have hcz28_0 : wc.cell? ⟨gb177, 0, none⟩ = some (.int .i64 a0_0) := (blk_cell BK177.out 0).trans rfl
            have hcz28_1 : wc.cell? ⟨gb177, 1, none⟩ = some (.int .i64 a0_1) := (blk_cell BK177.out 1).trans rfl
            have hcz28_2 : wc.cell? ⟨gb177, 2, none⟩ = some (.int .i64 a0_2) := (blk_cell BK177.out 2).trans rfl
            have hcz28_3 : wc.cell? ⟨gb177, 3, none⟩ = some (.int .i64 a0_3) := (blk_cell BK177.out 3).trans rfl
            have hcz28_4 : wc.cell? ⟨gb177, 4, none⟩ = some (.int .i64 a0_4) := (blk_cell BK177.out 4).trans rfl
            have hcz28_5 : wc.cell? ⟨gb177, 5, none⟩ = some (.int .i64 a0_5) := (blk_cell BK177.out 5).trans rfl
            have hcz28_6 : wc.cell? ⟨gb177, 6, none⟩ = some (.string a0_6) := (blk_cell BK177.out 6).trans rfl
            have hcz28_7 : wc.cell? ⟨gb177, 7, none⟩ = some (.slice A0_7 l0_7.length c0_7) := (blk_cell BK177.out 7).trans rfl
            have hfz28_0 := blk_frozen BK177.out 0
            have hfz28_1 := blk_frozen BK177.out 1
            have hfz28_2 := blk_frozen BK177.out 2
            have hfz28_3 := blk_frozen BK177.out 3
            have hfz28_4 := blk_frozen BK177.out 4
            have hfz28_5 := blk_frozen BK177.out 5
            have hfz28_6 := blk_frozen BK177.out 6
            have hfz28_7 := blk_frozen BK177.out 7
            go_wp2_with (first | ((with_reducible refine gate_builtin (b := .append) (xs := #[.tmp 40, .tmp 43]) rfl ?_); at_builtin; refine Kd.R_append (Kd.int .i64) (w0 := w) w.heap.size rfl (.tmp 40) (.tmp 43) 22 2 (.int .i64 0) 8 rfl Try.underlying22 info2 rfl (by decide) (by omega) u3 x3_10 a0_4 [.int .i64 a0_4] (fun _ => True) (fun _ => False) rfl rfl ?aP (fun _ hk => hk.elim) ?aF ?aO ?aB ?aS ?aL ?_; (case aP => exact rfl); (case aB => exact bz); (case aF => exact (fun _ _ => trivial)); (case aO => exact (rz HO_3.out)); (case aS => exact (below_size bz)); (case aL => have := LMc27.out; omega); intro v188 w29 ho hb hg hat; rw [← Ny187.out] at ho; have n0_ := Aside0.mk (blk_grown (g := gb177) (o := .cells #[.int .i64 a0_0, .int .i64 a0_1, .int .i64 a0_2, .int .i64 a0_3, .int .i64 a0_4, .int .i64 a0_5, .string a0_6, .slice A0_7 l0_7.length c0_7] 87 (0, 0)) kz hg (Kd.R_ne HO_3.out BK177.out (by decide))); have n1_ := Aside0.mk (hb); have n2_ := Aside0.mk (ho); clear BK177; clear HB; clear HO_3; have BK177 := n0_; have HB := n1_; have HO189 := n2_; clear n0_ n1_ n2_; clear ho hb hg hat))
            go_meet
            case rel => exact ⟨_, (y187), H', ⟨by have := HJ1.out; have := HJ10.out; have := HJ16.out; first | omega | exact Nat.le_refl _⟩, ⟨by (with_reducible repeat (first | apply Kd.R_alloc | apply Kd.R_drewN | apply Kd.R_drew)); exact HO189.out⟩, ⟨ kz⟩, ⟨ bz⟩⟩
          · rw [if_neg c27] at H
            exact absurd H (by simp)
        · replace c26 := Bool.eq_false_iff.mpr c26
          subst c26
          have H1 : (spec_Reads.j3 kj16 x3_10 a0_0 a0_1 a0_2 a0_3 a0_4 a0_5 a0_6 l0_7) = some r := by rw [if_neg (show ¬ (false = true) by decide)] at H; exact H
          clear H
          have H := H1
          clear H1
          have H' := Aside0.mk H
          clear H
          go_wp2
          go_meet
          case rel => exact ⟨_, (x3_10), H', ⟨by have := HJ1.out; have := HJ10.out; have := HJ16.out; first | omega | exact Nat.le_refl _⟩, ⟨by (with_reducible repeat (first | apply Kd.R_alloc | apply Kd.R_drewN | apply Kd.R_drew)); exact HO_3.out⟩, ⟨ kz⟩, ⟨ bz⟩⟩
       case rest =>
        clear HC25
        try clear c1
        try clear c2
        try clear p2
        try clear c7
        try clear c7b0
        try clear c8
        try clear c11
        try clear c13
        try clear c13b0
        try clear c14
        try clear c18
        try clear c18b0
        try clear c19
        try clear c19b0
        try clear c19b1
        try clear c21
        try clear c21b0
        try clear c21b1
        try clear c26
        try clear c27
        try clear hcz12_0
        try clear hcz12_1
        try clear hcz12_2
        try clear hcz12_3
        try clear hcz12_4
        try clear hcz12_5
        try clear hcz12_6
        try clear hcz12_7
        try clear hcz15_0
        try clear hcz15_1
        try clear hcz15_2
        try clear hcz15_3
        try clear hcz15_4
        try clear hcz15_5
        try clear hcz15_6
        try clear hcz15_7
        try clear hcz20_0
        try clear hcz20_1
        try clear hcz20_2
        try clear hcz20_3
        try clear hcz20_4
        try clear hcz20_5
        try clear hcz20_6
        try clear hcz20_7
        try clear hcz22_0
        try clear hcz22_1
        try clear hcz22_2
        try clear hcz22_3
        try clear hcz22_4
        try clear hcz22_5
        try clear hcz22_6
        try clear hcz22_7
        try clear hcz23_0
        try clear hcz23_1
        try clear hcz23_2
        try clear hcz23_3
        try clear hcz23_4
        try clear hcz23_5
        try clear hcz23_6
        try clear hcz23_7
        try clear hcz24_0
        try clear hcz24_1
        try clear hcz24_2
        try clear hcz24_3
        try clear hcz24_4
        try clear hcz24_5
        try clear hcz24_6
        try clear hcz24_7
        try clear hcz28_0
        try clear hcz28_1
        try clear hcz28_2
        try clear hcz28_3
        try clear hcz28_4
        try clear hcz28_5
        try clear hcz28_6
        try clear hcz28_7
        try clear hcz6_0
        try clear hcz6_1
        try clear hcz6_2
        try clear hcz6_3
        try clear hcz6_4
        try clear hcz6_5
        try clear hcz6_6
        try clear hcz6_7
        try clear hcz9_0
        try clear hcz9_1
        try clear hcz9_2
        try clear hcz9_3
        try clear hcz9_4
        try clear hcz9_5
        try clear hcz9_6
        try clear hcz9_7
        try clear hfz12_0
        try clear hfz12_1
        try clear hfz12_2
        try clear hfz12_3
        try clear hfz12_4
        try clear hfz12_5
        try clear hfz12_6
        try clear hfz12_7
        try clear hfz15_0
        try clear hfz15_1
        try clear hfz15_2
        try clear hfz15_3
        try clear hfz15_4
        try clear hfz15_5
        try clear hfz15_6
        try clear hfz15_7
        try clear hfz20_0
        try clear hfz20_1
        try clear hfz20_2
        try clear hfz20_3
        try clear hfz20_4
        try clear hfz20_5
        try clear hfz20_6
        try clear hfz20_7
        try clear hfz22_0
        try clear hfz22_1
        try clear hfz22_2
        try clear hfz22_3
        try clear hfz22_4
        try clear hfz22_5
        try clear hfz22_6
        try clear hfz22_7
        try clear hfz23_0
        try clear hfz23_1
        try clear hfz23_2
        try clear hfz23_3
        try clear hfz23_4
        try clear hfz23_5
        try clear hfz23_6
        try clear hfz23_7
        try clear hfz24_0
        try clear hfz24_1
        try clear hfz24_2
        try clear hfz24_3
        try clear hfz24_4
        try clear hfz24_5
        try clear hfz24_6
        try clear hfz24_7
        try clear hfz28_0
        try clear hfz28_1
        try clear hfz28_2
        try clear hfz28_3
        try clear hfz28_4
        try clear hfz28_5
        try clear hfz28_6
        try clear hfz28_7
        try clear hfz6_0
        try clear hfz6_1
        try clear hfz6_2
        try clear hfz6_3
        try clear hfz6_4
        try clear hfz6_5
        try clear hfz6_6
        try clear hfz6_7
        try clear hfz9_0
        try clear hfz9_1
        try clear hfz9_2
        try clear hfz9_3
        try clear hfz9_4
        try clear hfz9_5
        try clear hfz9_6
        try clear hfz9_7
        try clear p2
        obtain ⟨kq, x3_24, HA, HJ24, HO_3, BK177, HB⟩ := hcut
        cases kq with
        | zero => exact absurd HA.out (by simp [spec_Reads.j3])
        | succ kj24 =>
         have H := HA.out
         clear HA
         simp only [spec_Reads.j3] at H
         have H' := Aside0.mk H
         clear H
         go_wp2
         go_loopg [3, 4] kj24 (fun kq v3 v4 w' => ∃ (x3_5 : List Int) (x4_5 : Int), v4 = .int .i64 x4_5 ∧ Aside0 (spec_Reads.l0 kq x3_5 x4_5 a0_0 a0_1 a0_2 a0_3 a0_4 a0_5 a0_6 l0_7 = some r) ∧ Aside0 (kq ≤ kj24) ∧ Aside0 (Kd.R (Kd.int .i64) 2 w' w.heap.size (fun _ => True) v3 x3_5) ∧ Aside0 (w'.heap[gb177]? = some (.cells #[.int .i64 a0_0, .int .i64 a0_1, .int .i64 a0_2, .int .i64 a0_3, .int .i64 a0_4, .int .i64 a0_5, .string a0_6, (.slice A0_7 l0_7.length c0_7)] 87 (0, 0))) ∧ Aside0 (Below w.heap.size w w'))
         case atStart => exact ⟨(x3_24), (0), sz_, H', ⟨Nat.le_refl _⟩, ⟨by (with_reducible repeat (first | apply Kd.R_alloc | apply Kd.R_drewN | apply Kd.R_drew)); exact HO_3.out⟩, ⟨ kz⟩, ⟨ bz⟩⟩
         case round =>
          clear H'
          try clear c1
          try clear c2
          try clear p2
          try clear c7
          try clear c7b0
          try clear c8
          try clear c11
          try clear c13
          try clear c13b0
          try clear c14
          try clear c18
          try clear c18b0
          try clear c19
          try clear c19b0
          try clear c19b1
          try clear c21
          try clear c21b0
          try clear c21b1
          try clear c26
          try clear c27
          try clear hcz12_0
          try clear hcz12_1
          try clear hcz12_2
          try clear hcz12_3
          try clear hcz12_4
          try clear hcz12_5
          try clear hcz12_6
          try clear hcz12_7
          try clear hcz15_0
          try clear hcz15_1
          try clear hcz15_2
          try clear hcz15_3
          try clear hcz15_4
          try clear hcz15_5
          try clear hcz15_6
          try clear hcz15_7
          try clear hcz20_0
          try clear hcz20_1
          try clear hcz20_2
          try clear hcz20_3
          try clear hcz20_4
          try clear hcz20_5
          try clear hcz20_6
          try clear hcz20_7
          try clear hcz22_0
          try clear hcz22_1
          try clear hcz22_2
          try clear hcz22_3
          try clear hcz22_4
          try clear hcz22_5
          try clear hcz22_6
          try clear hcz22_7
          try clear hcz23_0
          try clear hcz23_1
          try clear hcz23_2
          try clear hcz23_3
          try clear hcz23_4
          try clear hcz23_5
          try clear hcz23_6
          try clear hcz23_7
          try clear hcz24_0
          try clear hcz24_1
          try clear hcz24_2
          try clear hcz24_3
          try clear hcz24_4
          try clear hcz24_5
          try clear hcz24_6
          try clear hcz24_7
          try clear hcz28_0
          try clear hcz28_1
          try clear hcz28_2
          try clear hcz28_3
          try clear hcz28_4
          try clear hcz28_5
          try clear hcz28_6
          try clear hcz28_7
          try clear hcz6_0
          try clear hcz6_1
          try clear hcz6_2
          try clear hcz6_3
          try clear hcz6_4
          try clear hcz6_5
          try clear hcz6_6
          try clear hcz6_7
          try clear hcz9_0
          try clear hcz9_1
          try clear hcz9_2
          try clear hcz9_3
          try clear hcz9_4
          try clear hcz9_5
          try clear hcz9_6
          try clear hcz9_7
          try clear hfz12_0
          try clear hfz12_1
          try clear hfz12_2
          try clear hfz12_3
          try clear hfz12_4
          try clear hfz12_5
          try clear hfz12_6
          try clear hfz12_7
          try clear hfz15_0
          try clear hfz15_1
          try clear hfz15_2
          try clear hfz15_3
          try clear hfz15_4
          try clear hfz15_5
          try clear hfz15_6
          try clear hfz15_7
          try clear hfz20_0
          try clear hfz20_1
          try clear hfz20_2
          try clear hfz20_3
          try clear hfz20_4
          try clear hfz20_5
          try clear hfz20_6
          try clear hfz20_7
          try clear hfz22_0
          try clear hfz22_1
          try clear hfz22_2
          try clear hfz22_3
          try clear hfz22_4
          try clear hfz22_5
          try clear hfz22_6
          try clear hfz22_7
          try clear hfz23_0
          try clear hfz23_1
          try clear hfz23_2
          try clear hfz23_3
          try clear hfz23_4
          try clear hfz23_5
          try clear hfz23_6
          try clear hfz23_7
          try clear hfz24_0
          try clear hfz24_1
          try clear hfz24_2
          try clear hfz24_3
          try clear hfz24_4
          try clear hfz24_5
          try clear hfz24_6
          try clear hfz24_7
          try clear hfz28_0
          try clear hfz28_1
          try clear hfz28_2
          try clear hfz28_3
          try clear hfz28_4
          try clear hfz28_5
          try clear hfz28_6
          try clear hfz28_7
          try clear hfz6_0
          try clear hfz6_1
          try clear hfz6_2
          try clear hfz6_3
          try clear hfz6_4
          try clear hfz6_5
          try clear hfz6_6
          try clear hfz6_7
          try clear hfz9_0
          try clear hfz9_1
          try clear hfz9_2
          try clear hfz9_3
          try clear hfz9_4
          try clear hfz9_5
          try clear hfz9_6
          try clear hfz9_7
          try clear p2
          obtain ⟨x3_5, x4_5, rfl, HA, HK5, HO_3, BK177, HB⟩ := hrel
          cases gk with
          | zero => exact absurd HA.out (by simp [spec_Reads.l0])
          | succ k5 =>
           have H := HA.out
           clear HA
           simp only [spec_Reads.l0] at H
           by_cases c30 : x4_5 < (l0_7.length : Int)
           · rw [if_pos c30] at H
             have c30b0 : decide (x4_5 < (l0_7.length : Int)) = true := decide_eq_true c30
             clear c30
             by_cases c31 : 0 ≤ x4_5
             · rw [if_pos c31] at H
               have c31b0 : decide (0 ≤ x4_5) = true := decide_eq_true c31
               clear c31
               by_cases c32 : (rd l0_7 x4_5) ≥ 0
               · rw [if_pos c32] at H
                 have c32b0 : decide (0 ≤ (rd l0_7 x4_5)) = true := decide_eq_true c32
                 clear c32
                 by_cases c33 : x3_5.length < 17592186044416
                 · rw [if_pos c33] at H
                   have LMc33 := Aside0.mk c33
                   clear c33
                   obtain ⟨y192, hy192⟩ : ∃ y_ : List Int, y_ = (x3_5 ++ [rd l0_7 x4_5]) := ⟨_, rfl⟩
                   replace H : (spec_Reads.l0 k5 y192 (wrap64 (x4_5 + 1)) a0_0 a0_1 a0_2 a0_3 a0_4 a0_5 a0_6 l0_7) = some r := by first | (rw [hy192]; with_reducible exact H) | (have H2_ := (Option.bind_some _ _).symm.trans H; rw [hy192]; with_reducible exact H2_) | (have H2_ := (Option.bind_some _ _).symm.trans H; with_reducible exact H2_) | with_reducible exact H | (rw [hy192]; exact H) | exact H
                   have Ny192 := Aside0.mk hy192
                   clear hy192
                   have H' := Aside0.mk H
                   clear H
                   have hcz34_0 : wr.cell? ⟨gb177, 0, none⟩ = some (.int .i64 a0_0) := (blk_cell BK177.out 0).trans rfl
                   have hcz34_1 : wr.cell? ⟨gb177, 1, none⟩ = some (.int .i64 a0_1) := (blk_cell BK177.out 1).trans rfl
                   have hcz34_2 : wr.cell? ⟨gb177, 2, none⟩ = some (.int .i64 a0_2) := (blk_cell BK177.out 2).trans rfl
                   have hcz34_3 : wr.cell? ⟨gb177, 3, none⟩ = some (.int .i64 a0_3) := (blk_cell BK177.out 3).trans rfl
                   have hcz34_4 : wr.cell? ⟨gb177, 4, none⟩ = some (.int .i64 a0_4) := (blk_cell BK177.out 4).trans rfl
                   have hcz34_5 : wr.cell? ⟨gb177, 5, none⟩ = some (.int .i64 a0_5) := (blk_cell BK177.out 5).trans rfl
                   have hcz34_6 : wr.cell? ⟨gb177, 6, none⟩ = some (.string a0_6) := (blk_cell BK177.out 6).trans rfl
                   have hcz34_7 : wr.cell? ⟨gb177, 7, none⟩ = some (.slice A0_7 l0_7.length c0_7) := (blk_cell BK177.out 7).trans rfl
                   have hfz34_0 := blk_frozen BK177.out 0
                   have hfz34_1 := blk_frozen BK177.out 1
                   have hfz34_2 := blk_frozen BK177.out 2
                   have hfz34_3 := blk_frozen BK177.out 3
                   have hfz34_4 := blk_frozen BK177.out 4
                   have hfz34_5 := blk_frozen BK177.out 5
                   have hfz34_6 := blk_frozen BK177.out 6
                   have hfz34_7 := blk_frozen BK177.out 7
                   have p190 : 0 ≤ (x4_5 : Int) := of_decide_eq_true az
                   have q190 : x4_5 < (l0_7.length : Int) := of_decide_eq_true az
                   obtain ⟨ad190, e190, hx190_0⟩ := Kd.at_int HR0_7.out x4_5 p190 q190
                   cases e190
                   replace hx190_0 := ck HB hx190_0
                   replace p190 := eq_true p190
                   replace q190 := eq_true q190
                   have p191 : 0 ≤ (x4_5 : Int) := of_decide_eq_true az
                   have q191 : x4_5 < (l0_7.length : Int) := of_decide_eq_true az
                   obtain ⟨ad191, e191, hx191_0⟩ := Kd.at_int HR0_7.out x4_5 p191 q191
                   obtain rfl : ad190 = ad191 := (by injection e191)
                   replace hx191_0 := ck HB hx191_0
                   replace p191 := eq_true p191
                   replace q191 := eq_true q191
                   go_wp2_with (first | ((with_reducible refine gate_builtin (b := .append) (xs := #[.tmp 58, .tmp 64]) rfl ?_); at_builtin; refine Kd.R_append (Kd.int .i64) (w0 := w) w.heap.size rfl (.tmp 58) (.tmp 64) 22 2 (.int .i64 0) 8 rfl Try.underlying22 info2 rfl (by decide) (by omega) u3 x3_5 (rd l0_7 x4_5) [.int .i64 (rd l0_7 x4_5)] (fun _ => True) (fun _ => False) rfl rfl ?aP (fun _ hk => hk.elim) ?aF ?aO ?aB ?aS ?aL ?_; (case aP => exact rfl); (case aB => exact bz); (case aF => exact (fun _ _ => trivial)); (case aO => exact (rz HO_3.out)); (case aS => exact (below_size bz)); (case aL => have := LMc33.out; omega); intro v193 w35 ho hb hg hat; rw [← Ny192.out] at ho; have n0_ := Aside0.mk (blk_grown (g := gb177) (o := .cells #[.int .i64 a0_0, .int .i64 a0_1, .int .i64 a0_2, .int .i64 a0_3, .int .i64 a0_4, .int .i64 a0_5, .string a0_6, .slice (some ad190) l0_7.length c0_7] 87 (0, 0)) kz hg (Kd.R_ne HO_3.out BK177.out (by decide))); have n1_ := Aside0.mk (hb); have n2_ := Aside0.mk (ho); clear BK177; clear HB; clear HO_3; have BK177 := n0_; have HB := n1_; have HO194 := n2_; clear n0_ n1_ n2_; clear ho hb hg hat))
                   go_roundg k5
                   case measure => have := HJ1.out; have := HJ10.out; have := HJ16.out; have := HJ24.out; have := HK5.out; omega
                   case rel => exact ⟨(y192), (wrap64 (x4_5 + 1)), sz_, H', ⟨by have := HJ1.out; have := HJ10.out; have := HJ16.out; have := HJ24.out; have := HK5.out; omega⟩, ⟨by (with_reducible repeat (first | apply Kd.R_alloc | apply Kd.R_drewN | apply Kd.R_drew)); exact HO194.out⟩, ⟨ kz⟩, ⟨ bz⟩⟩
                 · rw [if_neg c33] at H
                   exact absurd H (by simp)
               · rw [if_neg c32] at H
                 have c32b0 : decide (0 ≤ (rd l0_7 x4_5)) = false := decide_eq_false c32
                 clear c32
                 have H' := Aside0.mk H
                 clear H
                 have hcz36_0 : wr.cell? ⟨gb177, 0, none⟩ = some (.int .i64 a0_0) := (blk_cell BK177.out 0).trans rfl
                 have hcz36_1 : wr.cell? ⟨gb177, 1, none⟩ = some (.int .i64 a0_1) := (blk_cell BK177.out 1).trans rfl
                 have hcz36_2 : wr.cell? ⟨gb177, 2, none⟩ = some (.int .i64 a0_2) := (blk_cell BK177.out 2).trans rfl
                 have hcz36_3 : wr.cell? ⟨gb177, 3, none⟩ = some (.int .i64 a0_3) := (blk_cell BK177.out 3).trans rfl
                 have hcz36_4 : wr.cell? ⟨gb177, 4, none⟩ = some (.int .i64 a0_4) := (blk_cell BK177.out 4).trans rfl
                 have hcz36_5 : wr.cell? ⟨gb177, 5, none⟩ = some (.int .i64 a0_5) := (blk_cell BK177.out 5).trans rfl
                 have hcz36_6 : wr.cell? ⟨gb177, 6, none⟩ = some (.string a0_6) := (blk_cell BK177.out 6).trans rfl
                 have hcz36_7 : wr.cell? ⟨gb177, 7, none⟩ = some (.slice A0_7 l0_7.length c0_7) := (blk_cell BK177.out 7).trans rfl
                 have hfz36_0 := blk_frozen BK177.out 0
                 have hfz36_1 := blk_frozen BK177.out 1
                 have hfz36_2 := blk_frozen BK177.out 2
                 have hfz36_3 := blk_frozen BK177.out 3
                 have hfz36_4 := blk_frozen BK177.out 4
                 have hfz36_5 := blk_frozen BK177.out 5
                 have hfz36_6 := blk_frozen BK177.out 6
                 have hfz36_7 := blk_frozen BK177.out 7
                 have p190 : 0 ≤ (x4_5 : Int) := of_decide_eq_true az
                 have q190 : x4_5 < (l0_7.length : Int) := of_decide_eq_true az
                 obtain ⟨ad190, e190, hx190_0⟩ := Kd.at_int HR0_7.out x4_5 p190 q190
                 cases e190
                 replace hx190_0 := ck HB hx190_0
                 replace p190 := eq_true p190
                 replace q190 := eq_true q190
                 go_wp2
                 go_roundg k5
                 case measure => have := HJ1.out; have := HJ10.out; have := HJ16.out; have := HJ24.out; have := HK5.out; omega
                 case rel => exact ⟨(x3_5), (wrap64 (x4_5 + 1)), sz_, H', ⟨by have := HJ1.out; have := HJ10.out; have := HJ16.out; have := HJ24.out; have := HK5.out; omega⟩, ⟨by (with_reducible repeat (first | apply Kd.R_alloc | apply Kd.R_drewN | apply Kd.R_drew)); exact HO_3.out⟩, ⟨ kz⟩, ⟨ bz⟩⟩
             · rw [if_neg c31] at H
               exact absurd H (by simp)
           · rw [if_neg c30] at H
             have c30b0 : decide (x4_5 < (l0_7.length : Int)) = false := decide_eq_false c30
             clear c30
             obtain rfl := Option.some.inj H
             have hcz37_0 : wr.cell? ⟨gb177, 0, none⟩ = some (.int .i64 a0_0) := (blk_cell BK177.out 0).trans rfl
             have hcz37_1 : wr.cell? ⟨gb177, 1, none⟩ = some (.int .i64 a0_1) := (blk_cell BK177.out 1).trans rfl
             have hcz37_2 : wr.cell? ⟨gb177, 2, none⟩ = some (.int .i64 a0_2) := (blk_cell BK177.out 2).trans rfl
             have hcz37_3 : wr.cell? ⟨gb177, 3, none⟩ = some (.int .i64 a0_3) := (blk_cell BK177.out 3).trans rfl
             have hcz37_4 : wr.cell? ⟨gb177, 4, none⟩ = some (.int .i64 a0_4) := (blk_cell BK177.out 4).trans rfl
             have hcz37_5 : wr.cell? ⟨gb177, 5, none⟩ = some (.int .i64 a0_5) := (blk_cell BK177.out 5).trans rfl
             have hcz37_6 : wr.cell? ⟨gb177, 6, none⟩ = some (.string a0_6) := (blk_cell BK177.out 6).trans rfl
             have hcz37_7 : wr.cell? ⟨gb177, 7, none⟩ = some (.slice A0_7 l0_7.length c0_7) := (blk_cell BK177.out 7).trans rfl
             have hfz37_0 := blk_frozen BK177.out 0
             have hfz37_1 := blk_frozen BK177.out 1
             have hfz37_2 := blk_frozen BK177.out 2
             have hfz37_3 := blk_frozen BK177.out 3
             have hfz37_4 := blk_frozen BK177.out 4
             have hfz37_5 := blk_frozen BK177.out 5
             have hfz37_6 := blk_frozen BK177.out 6
             have hfz37_7 := blk_frozen BK177.out 7
             go_wp2
             go_ret
             exact ⟨_, by first | rfl | (simp [errW_none, errW_some] <;> rfl) | (simp [*, errW_none, errW_some] <;> rfl), by (with_reducible repeat (first | apply Kd.R_alloc | apply Kd.R_drewN | apply Kd.R_drew)); exact HO_3.out, bz⟩

set_option linter.unusedVariables false
set_option linter.unusedSimpArgs false

mutual
def spec_l18Most.l0 : Nat → Int → Int → Int → List Int → List (S85) → Option (Int)
 | 0, _, _, _, _, _ => none
 | k + 1, x3, x4, x219000, x219001, x219002 => if x4 < (x219002.length : Int) then (spec_l18Most.l1 k x3 x4 0 x219000 x219001 x219002) else (some x3)
def spec_l18Most.l1 : Nat → Int → Int → Int → Int → List Int → List (S85) → Option (Int)
 | 0, _, _, _, _, _, _ => none
 | k + 1, x3, x4, x5, x219000, x219001, x219002 => if 0 ≤ x4 then (if x4 < (x219002.length : Int) then (if x5 < (((rd_T85 x219002 x4).f0).length : Int) then (if 0 ≤ x5 then ((spec_Reads.f k ((rd_T87 ((rd_T85 x219002 x4).f0) x5).f0) ((rd_T87 ((rd_T85 x219002 x4).f0) x5).f1) ((rd_T87 ((rd_T85 x219002 x4).f0) x5).f2) ((rd_T87 ((rd_T85 x219002 x4).f0) x5).f3) ((rd_T87 ((rd_T85 x219002 x4).f0) x5).f4) ((rd_T87 ((rd_T85 x219002 x4).f0) x5).f5) ((rd_T87 ((rd_T85 x219002 x4).f0) x5).f6) ((rd_T87 ((rd_T85 x219002 x4).f0) x5).f7)).bind fun t223 => ((some (([(rd_T87 ((rd_T85 x219002 x4).f0) x5).f1] : List Int) : List Int)).bind fun y226 => (if t223.length + y226.length < 17592186044416 then (spec_l18Most.l2 k x3 x4 x5 (t223 ++ y226) 0 x219000 x219001 x219002) else (none)))) else (none)) else (spec_l18Most.l0 k x3 (wrap64 (x4 + 1)) x219000 x219001 x219002)) else (none)) else (none)
def spec_l18Most.l2 : Nat → Int → Int → Int → List Int → Int → Int → List Int → List (S85) → Option (Int)
 | 0, _, _, _, _, _, _, _, _ => none
 | k + 1, x3, x4, x5, x7, x8, x219000, x219001, x219002 => if x8 < (x7.length : Int) then (if 0 ≤ x8 then (if (rd x7 x8) ≥ x3 then (if (rd x7 x8) < 1048576 then (spec_l18Most.l2 k (wrap64 ((rd x7 x8) + 1)) x4 x5 x7 (wrap64 (x8 + 1)) x219000 x219001 x219002) else (spec_l18Most.l2 k x3 x4 x5 x7 (wrap64 (x8 + 1)) x219000 x219001 x219002)) else (spec_l18Most.l2 k x3 x4 x5 x7 (wrap64 (x8 + 1)) x219000 x219001 x219002)) else (none)) else (spec_l18Most.l1 k x3 x4 (wrap64 (x5 + 1)) x219000 x219001 x219002)
end
def spec_l18Most.f (k : Nat) (a0_0 : Int) (l0_1 : List Int) (l0_2 : List (S85)) : Option (Int) := spec_l18Most.l0 k 0 0 a0_0 l0_1 l0_2
set_option maxHeartbeats 8000000 in
set_option maxRecDepth 100000 in
theorem spec_l18Most.calls (k : Nat) (a0_0 : Int) (A0_1 : Option Addr) (c0_1 : Nat) (l0_1 : List Int) (A0_2 : Option Addr) (c0_2 : Nat) (l0_2 : List (S85)) (r : Int) (w : World) (hr0_1 : Kd.C (Kd.int .i64) w A0_1 l0_1.length l0_1) (hc0_1 : l0_1.length ≤ c0_1) (hr0_2 : Kd.C k85 w A0_2 l0_2.length l0_2) (hc0_2 : l0_2.length ≤ c0_2) (h : spec_l18Most.f k a0_0 l0_1 l0_2 = some r) :
 Calls Try.prog 121 #[.agg #[.int .i64 a0_0, .slice A0_1 l0_1.length c0_1, .slice A0_2 l0_2.length c0_2]] w fun e w' => e = .returned (.int .i64 r) ∧ Below w.heap.size w w' := by
 have hu29 := Try.underlying29
 have hu87 := Try.underlying87
 have HR0_1 := Aside0.mk hr0_1
 have HC0_1 := Aside0.mk hc0_1
 clear hr0_1 hc0_1
 have HR0_2 := Aside0.mk hr0_2
 have HC0_2 := Aside0.mk hc0_2
 clear hr0_2 hc0_2
 have HB := Aside0.mk (Below.refl w.heap.size w)
 have H : (spec_l18Most.l0 k 0 0 a0_0 l0_1 l0_2) = some r := h
 clear h
 have H' := Aside0.mk H
 clear H
 go_enter Try.func121, Try.ntmps121
 go_wp2_with (first | ((with_reducible refine gate_dst (N := 1) rfl ?_); refine box_event ?hg (N := 1) ?hd (cs := #[.int .i64 a0_0, .slice A0_1 l0_1.length c0_1, .slice A0_2 l0_2.length c0_2]) (t := 29) ?hr ?_; (case hd => rfl); (case hg => rfl); (case hr => first | (go_simp; done) | (go_simp; rfl)); intro gb218 hg w2 hbox hb; have n0_ := Aside0.mk (below_step bz hb); have n1_ := Aside0.mk (hbox); have n2_ := Aside0.mk ((by rw [hg]; exact (below_size bz) : w.heap.size ≤ gb218)); have n3_ := Aside0.mk ((by rw [hg]; exact (below_size bz) : w.heap.size ≤ gb218)); clear HB; have HB := n0_; have BK218 := n1_; have GW218 := n2_; have GE218 := n3_; clear n0_ n1_ n2_ n3_; clear hb hbox hg))
 go_loopg [3, 4] k (fun kq v3 v4 w' => ∃ (x3_1 : Int) (x4_1 : Int), v3 = .int .i64 x3_1 ∧ v4 = .int .i64 x4_1 ∧ Aside0 (spec_l18Most.l0 kq x3_1 x4_1 a0_0 l0_1 l0_2 = some r) ∧ Aside0 (kq ≤ k) ∧ Aside0 (w'.heap[gb218]? = some (.cells #[.int .i64 a0_0, (.slice A0_1 l0_1.length c0_1), (.slice A0_2 l0_2.length c0_2)] 29 (0, 0))) ∧ Aside0 (Below w.heap.size w w'))
 case atStart => exact ⟨(0), (0), sz_, sz_, H', ⟨Nat.le_refl _⟩, ⟨ kz⟩, ⟨ bz⟩⟩
 case round =>
  clear H'
  try clear c1
  try clear p2
  obtain ⟨x3_1, x4_1, rfl, rfl, HA, HK1, BK218, HB⟩ := hrel
  cases gk with
  | zero => exact absurd HA.out (by simp [spec_l18Most.l0])
  | succ k1 =>
   have H := HA.out
   clear HA
   simp only [spec_l18Most.l0] at H
   by_cases c3 : x4_1 < (l0_2.length : Int)
   · rw [if_pos c3] at H
     have c3b0 : decide (x4_1 < (l0_2.length : Int)) = true := decide_eq_true c3
     clear c3
     have H' := Aside0.mk H
     clear H
     have hcz4_0 : wr.cell? ⟨gb218, 0, none⟩ = some (.int .i64 a0_0) := (blk_cell BK218.out 0).trans rfl
     have hcz4_1 : wr.cell? ⟨gb218, 1, none⟩ = some (.slice A0_1 l0_1.length c0_1) := (blk_cell BK218.out 1).trans rfl
     have hcz4_2 : wr.cell? ⟨gb218, 2, none⟩ = some (.slice A0_2 l0_2.length c0_2) := (blk_cell BK218.out 2).trans rfl
     have hfz4_0 := blk_frozen BK218.out 0
     have hfz4_1 := blk_frozen BK218.out 1
     have hfz4_2 := blk_frozen BK218.out 2
     go_wp2
     go_loopg [3, 5] k1 (fun kq v3 v5 w' => ∃ (x3_2 : Int) (x5_2 : Int), v3 = .int .i64 x3_2 ∧ v5 = .int .i64 x5_2 ∧ Aside0 (spec_l18Most.l1 kq x3_2 x4_1 x5_2 a0_0 l0_1 l0_2 = some r) ∧ Aside0 (kq ≤ k1) ∧ Aside0 (w'.heap[gb218]? = some (.cells #[.int .i64 a0_0, (.slice A0_1 l0_1.length c0_1), (.slice A0_2 l0_2.length c0_2)] 29 (0, 0))) ∧ Aside0 (Below w.heap.size w w'))
     case atStart => exact ⟨(x3_1), (0), sz_, sz_, H', ⟨Nat.le_refl _⟩, ⟨ kz⟩, ⟨ bz⟩⟩
     case round =>
      clear H'
      try clear c1
      try clear p2
      try clear c3
      try clear c3b0
      try clear hcz4_0
      try clear hcz4_1
      try clear hcz4_2
      try clear hfz4_0
      try clear hfz4_1
      try clear hfz4_2
      try clear p2
      obtain ⟨x3_2, x5_2, rfl, rfl, HA, HK2, BK218, HB⟩ := hrel
      cases gk with
      | zero => exact absurd HA.out (by simp [spec_l18Most.l1])
      | succ k2 =>
       have H := HA.out
       clear HA
       simp only [spec_l18Most.l1] at H
       by_cases c5 : 0 ≤ x4_1
       · rw [if_pos c5] at H
         have c5b0 : decide (0 ≤ x4_1) = true := decide_eq_true c5
         clear c5
         by_cases c6 : x4_1 < (l0_2.length : Int)
         · rw [if_pos c6] at H
           have c6b0 : decide (x4_1 < (l0_2.length : Int)) = true := decide_eq_true c6
           clear c6
           by_cases c7 : x5_2 < (((rd_T85 l0_2 x4_1).f0).length : Int)
           · rw [if_pos c7] at H
             have c7b0 : decide (x5_2 < (((rd_T85 l0_2 x4_1).f0).length : Int)) = true := decide_eq_true c7
             clear c7
             by_cases c8 : 0 ≤ x5_2
             · rw [if_pos c8] at H
               have c8b0 : decide (0 ≤ x5_2) = true := decide_eq_true c8
               clear c8
               replace H := Option.bind_eq_some_iff.mp H
               obtain ⟨t223, A90, H⟩ := H
               replace H : ((some (([(rd_T87 ((rd_T85 l0_2 x4_1).f0) x5_2).f1] : List Int) : List Int)).bind fun y226 => (if t223.length + y226.length < 17592186044416 then (spec_l18Most.l2 k2 x3_2 x4_1 x5_2 (t223 ++ y226) 0 a0_0 l0_1 l0_2) else (none))) = some r := H
               have A9 := Aside0.mk A90
               clear A90
               obtain ⟨y226, hy226⟩ : ∃ y_ : List Int, y_ = (([(rd_T87 ((rd_T85 l0_2 x4_1).f0) x5_2).f1] : List Int)) := ⟨_, rfl⟩
               replace H : (if t223.length + y226.length < 17592186044416 then (spec_l18Most.l2 k2 x3_2 x4_1 x5_2 (t223 ++ y226) 0 a0_0 l0_1 l0_2) else (none)) = some r := by first | (rw [hy226]; with_reducible exact H) | (have H2_ := (Option.bind_some _ _).symm.trans H; rw [hy226]; with_reducible exact H2_) | (have H2_ := (Option.bind_some _ _).symm.trans H; with_reducible exact H2_) | with_reducible exact H | (rw [hy226]; exact H) | exact H
               have Ny226 := Aside0.mk hy226
               clear hy226
               by_cases c10 : t223.length + y226.length < 17592186044416
               · rw [if_pos c10] at H
                 have LMc10 := Aside0.mk c10
                 clear c10
                 obtain ⟨y229, hy229⟩ : ∃ y_ : List Int, y_ = (t223 ++ y226) := ⟨_, rfl⟩
                 replace H : (spec_l18Most.l2 k2 x3_2 x4_1 x5_2 y229 0 a0_0 l0_1 l0_2) = some r := by first | (rw [hy229]; with_reducible exact H) | (have H2_ := (Option.bind_some _ _).symm.trans H; rw [hy229]; with_reducible exact H2_) | (have H2_ := (Option.bind_some _ _).symm.trans H; with_reducible exact H2_) | with_reducible exact H | (rw [hy229]; exact H) | exact H
                 have Ny229 := Aside0.mk hy229
                 clear hy229
                 have H' := Aside0.mk H
                 clear H
                 have hcz11_0 : wr.cell? ⟨gb218, 0, none⟩ = some (.int .i64 a0_0) := (blk_cell BK218.out 0).trans rfl
                 have hcz11_1 : wr.cell? ⟨gb218, 1, none⟩ = some (.slice A0_1 l0_1.length c0_1) := (blk_cell BK218.out 1).trans rfl
                 have hcz11_2 : wr.cell? ⟨gb218, 2, none⟩ = some (.slice A0_2 l0_2.length c0_2) := (blk_cell BK218.out 2).trans rfl
                 have hfz11_0 := blk_frozen BK218.out 0
                 have hfz11_1 := blk_frozen BK218.out 1
                 have hfz11_2 := blk_frozen BK218.out 2
                 have p219 : 0 ≤ (x4_1 : Int) := of_decide_eq_true az
                 have q219 : x4_1 < (l0_2.length : Int) := of_decide_eq_true az
                 obtain ⟨ad219, A219_0, c219_0, e219, hx219_0, hl219_0, hi219_0⟩ := at_T85 HR0_2.out x4_1 p219 q219
                 cases e219
                 replace hx219_0 := ck HB hx219_0
                 have HR219_0 := Aside0.mk hi219_0
                 have HC219_0 := Aside0.mk hl219_0
                 clear hi219_0 hl219_0
                 replace p219 := eq_true p219
                 replace q219 := eq_true q219
                 have p220 : 0 ≤ (x4_1 : Int) := of_decide_eq_true az
                 have q220 : x4_1 < (l0_2.length : Int) := of_decide_eq_true az
                 obtain ⟨ad220, A220_0, c220_0, e220, hx220_0, hl220_0, hi220_0⟩ := at_T85 HR0_2.out x4_1 p220 q220
                 obtain rfl : ad219 = ad220 := (by injection e220)
                 replace hx220_0 := ck HB hx220_0
                 have HR220_0 := Aside0.mk hi220_0
                 have HC220_0 := Aside0.mk hl220_0
                 clear hi220_0 hl220_0
                 replace p220 := eq_true p220
                 replace q220 := eq_true q220
                 have ea_ := Option.some.inj (hx219_0.symm.trans hx220_0)
                 injection ea_ with ea_ en_ ec_
                 subst ea_
                 subst ec_
                 clear en_
                 have p221 : 0 ≤ (x5_2 : Int) := of_decide_eq_true az
                 have q221 : x5_2 < (((rd_T85 l0_2 x4_1).f0).length : Int) := of_decide_eq_true az
                 obtain ⟨ad221, A221_7, c221_7, e221, hx221_0, hx221_1, hx221_2, hx221_3, hx221_4, hx221_5, hx221_6, hx221_7, hl221_7, hi221_7⟩ := at_T87 HR220_0.out x5_2 p221 q221
                 cases e221
                 replace hx221_0 := ck HB hx221_0
                 replace hx221_1 := ck HB hx221_1
                 replace hx221_2 := ck HB hx221_2
                 replace hx221_3 := ck HB hx221_3
                 replace hx221_4 := ck HB hx221_4
                 replace hx221_5 := ck HB hx221_5
                 replace hx221_6 := ck HB hx221_6
                 replace hx221_7 := ck HB hx221_7
                 have HR221_7 := Aside0.mk hi221_7
                 have HC221_7 := Aside0.mk hl221_7
                 clear hi221_7 hl221_7
                 replace p221 := eq_true p221
                 replace q221 := eq_true q221
                 try go_wp2_with (first | ((with_reducible refine gate_dst (N := 6) rfl ?_); refine box_event ?hg (N := 6) ?hd (cs := #[.int .i64 0, .int .i64 0, .int .i64 0, .int .i64 0, .int .i64 0, .int .i64 0, .string (⟨#[]⟩ : ByteArray), .slice none 0 0]) (t := 87) ?hr ?_; (case hd => rfl); (case hg => rfl); (case hr => first | (go_simp; done) | (go_simp; rfl)); intro gb222 hg w12 hbox hb; have n0_ := Aside0.mk (blk_below (g := gb218) (o := .cells #[.int .i64 a0_0, .slice A0_1 l0_1.length c0_1, .slice (some ad219) l0_2.length c0_2] 29 (0, 0)) kz hb); have n1_ := Aside0.mk (below_step bz hb); have n2_ := Aside0.mk (hbox); have n3_ := Aside0.mk ((by rw [hg]; exact (below_size bz) : w.heap.size ≤ gb222)); have n4_ := Aside0.mk ((by rw [hg]; exact (below_size bz) : w.heap.size ≤ gb222)); have n5_ := Aside0.mk ((by rw [hg]; exact Nat.ne_of_lt (blk_lt (g := gb218) (o := .cells #[.int .i64 a0_0, .slice A0_1 l0_1.length c0_1, .slice (some ad219) l0_2.length c0_2] 29 (0, 0)) kz) : gb218 ≠ gb222)); have n6_ := Aside0.mk ((by rw [hg]; exact Nat.ne_of_gt (blk_lt (g := gb218) (o := .cells #[.int .i64 a0_0, .slice A0_1 l0_1.length c0_1, .slice (some ad219) l0_2.length c0_2] 29 (0, 0)) kz) : gb222 ≠ gb218)); clear BK218; clear HB; have BK218 := n0_; have HB := n1_; have BK222 := n2_; have GW222 := n3_; have GE222 := n4_; have NB218_222 := n5_; have NB222_218 := n6_; clear n0_ n1_ n2_ n3_ n4_ n5_ n6_; clear hb hbox hg; have hnb13 := NB222_218.out; have hnc13 := NB218_222.out; have hcz14_0 : w12.cell? ⟨gb222, 0, none⟩ = some (.int .i64 0) := (blk_cell BK222.out 0).trans rfl; have hcz14_1 : w12.cell? ⟨gb222, 1, none⟩ = some (.int .i64 0) := (blk_cell BK222.out 1).trans rfl; have hcz14_2 : w12.cell? ⟨gb222, 2, none⟩ = some (.int .i64 0) := (blk_cell BK222.out 2).trans rfl; have hcz14_3 : w12.cell? ⟨gb222, 3, none⟩ = some (.int .i64 0) := (blk_cell BK222.out 3).trans rfl; have hcz14_4 : w12.cell? ⟨gb222, 4, none⟩ = some (.int .i64 0) := (blk_cell BK222.out 4).trans rfl; have hcz14_5 : w12.cell? ⟨gb222, 5, none⟩ = some (.int .i64 0) := (blk_cell BK222.out 5).trans rfl; have hcz14_6 : w12.cell? ⟨gb222, 6, none⟩ = some (.string (⟨#[]⟩ : ByteArray)) := (blk_cell BK222.out 6).trans rfl; have hcz14_7 : w12.cell? ⟨gb222, 7, none⟩ = some (.slice none 0 0) := (blk_cell BK222.out 7).trans rfl; have hfz14_0 := blk_frozen BK222.out 0; have hfz14_1 := blk_frozen BK222.out 1; have hfz14_2 := blk_frozen BK222.out 2; have hfz14_3 := blk_frozen BK222.out 3; have hfz14_4 := blk_frozen BK222.out 4; have hfz14_5 := blk_frozen BK222.out 5; have hfz14_6 := blk_frozen BK222.out 6; have hfz14_7 := blk_frozen BK222.out 7))
                 have n0_ : Aside0 (((((((((w12.setCell ⟨gb222, 0, none⟩ (.int .i64 ((rd_T87 ((rd_T85 l0_2 x4_1).f0) x5_2).f0))).setCell ⟨gb222, 1, none⟩ (.int .i64 ((rd_T87 ((rd_T85 l0_2 x4_1).f0) x5_2).f1))).setCell ⟨gb222, 2, none⟩ (.int .i64 ((rd_T87 ((rd_T85 l0_2 x4_1).f0) x5_2).f2))).setCell ⟨gb222, 3, none⟩ (.int .i64 ((rd_T87 ((rd_T85 l0_2 x4_1).f0) x5_2).f3))).setCell ⟨gb222, 4, none⟩ (.int .i64 ((rd_T87 ((rd_T85 l0_2 x4_1).f0) x5_2).f4))).setCell ⟨gb222, 5, none⟩ (.int .i64 ((rd_T87 ((rd_T85 l0_2 x4_1).f0) x5_2).f5))).setCell ⟨gb222, 6, none⟩ (.string ((rd_T87 ((rd_T85 l0_2 x4_1).f0) x5_2).f6))).setCell ⟨gb222, 7, none⟩ (.slice A221_7 ((rd_T87 ((rd_T85 l0_2 x4_1).f0) x5_2).f7).length c221_7)).heap[gb218]? = some (.cells #[.int .i64 a0_0, .slice A0_1 l0_1.length c0_1, .slice (some ad219) l0_2.length c0_2] 29 (0, 0))) := ⟨by (with_reducible repeat (first | refine blk_drewN ?_ _ | refine blk_drew ?_ | refine blk_alloc ?_ _)); refine blk_far ?_ NB218_222.out _; (with_reducible repeat (first | refine blk_drewN ?_ _ | refine blk_drew ?_ | refine blk_alloc ?_ _)); refine blk_far ?_ NB218_222.out _; (with_reducible repeat (first | refine blk_drewN ?_ _ | refine blk_drew ?_ | refine blk_alloc ?_ _)); refine blk_far ?_ NB218_222.out _; (with_reducible repeat (first | refine blk_drewN ?_ _ | refine blk_drew ?_ | refine blk_alloc ?_ _)); refine blk_far ?_ NB218_222.out _; (with_reducible repeat (first | refine blk_drewN ?_ _ | refine blk_drew ?_ | refine blk_alloc ?_ _)); refine blk_far ?_ NB218_222.out _; (with_reducible repeat (first | refine blk_drewN ?_ _ | refine blk_drew ?_ | refine blk_alloc ?_ _)); refine blk_far ?_ NB218_222.out _; (with_reducible repeat (first | refine blk_drewN ?_ _ | refine blk_drew ?_ | refine blk_alloc ?_ _)); refine blk_far ?_ NB218_222.out _; (with_reducible repeat (first | refine blk_drewN ?_ _ | refine blk_drew ?_ | refine blk_alloc ?_ _)); refine blk_far ?_ NB218_222.out _; (with_reducible repeat (first | refine blk_drewN ?_ _ | refine blk_drew ?_ | refine blk_alloc ?_ _)); exact BK218.out⟩
                 have n1_ : Aside0 (((((((((w12.setCell ⟨gb222, 0, none⟩ (.int .i64 ((rd_T87 ((rd_T85 l0_2 x4_1).f0) x5_2).f0))).setCell ⟨gb222, 1, none⟩ (.int .i64 ((rd_T87 ((rd_T85 l0_2 x4_1).f0) x5_2).f1))).setCell ⟨gb222, 2, none⟩ (.int .i64 ((rd_T87 ((rd_T85 l0_2 x4_1).f0) x5_2).f2))).setCell ⟨gb222, 3, none⟩ (.int .i64 ((rd_T87 ((rd_T85 l0_2 x4_1).f0) x5_2).f3))).setCell ⟨gb222, 4, none⟩ (.int .i64 ((rd_T87 ((rd_T85 l0_2 x4_1).f0) x5_2).f4))).setCell ⟨gb222, 5, none⟩ (.int .i64 ((rd_T87 ((rd_T85 l0_2 x4_1).f0) x5_2).f5))).setCell ⟨gb222, 6, none⟩ (.string ((rd_T87 ((rd_T85 l0_2 x4_1).f0) x5_2).f6))).setCell ⟨gb222, 7, none⟩ (.slice A221_7 ((rd_T87 ((rd_T85 l0_2 x4_1).f0) x5_2).f7).length c221_7)).heap[gb222]? = some (.cells #[.int .i64 ((rd_T87 ((rd_T85 l0_2 x4_1).f0) x5_2).f0), .int .i64 ((rd_T87 ((rd_T85 l0_2 x4_1).f0) x5_2).f1), .int .i64 ((rd_T87 ((rd_T85 l0_2 x4_1).f0) x5_2).f2), .int .i64 ((rd_T87 ((rd_T85 l0_2 x4_1).f0) x5_2).f3), .int .i64 ((rd_T87 ((rd_T85 l0_2 x4_1).f0) x5_2).f4), .int .i64 ((rd_T87 ((rd_T85 l0_2 x4_1).f0) x5_2).f5), .string ((rd_T87 ((rd_T85 l0_2 x4_1).f0) x5_2).f6), .slice A221_7 ((rd_T87 ((rd_T85 l0_2 x4_1).f0) x5_2).f7).length c221_7] 87 (0, 0))) := ⟨by (with_reducible repeat (first | refine blk_drewN ?_ _ | refine blk_drew ?_ | refine blk_alloc ?_ _)); refine blk_put (cs := #[.int .i64 ((rd_T87 ((rd_T85 l0_2 x4_1).f0) x5_2).f0), .int .i64 ((rd_T87 ((rd_T85 l0_2 x4_1).f0) x5_2).f1), .int .i64 ((rd_T87 ((rd_T85 l0_2 x4_1).f0) x5_2).f2), .int .i64 ((rd_T87 ((rd_T85 l0_2 x4_1).f0) x5_2).f3), .int .i64 ((rd_T87 ((rd_T85 l0_2 x4_1).f0) x5_2).f4), .int .i64 ((rd_T87 ((rd_T85 l0_2 x4_1).f0) x5_2).f5), .string ((rd_T87 ((rd_T85 l0_2 x4_1).f0) x5_2).f6), .slice none 0 0]) ?_ 7 _ rfl; (with_reducible repeat (first | refine blk_drewN ?_ _ | refine blk_drew ?_ | refine blk_alloc ?_ _)); refine blk_put (cs := #[.int .i64 ((rd_T87 ((rd_T85 l0_2 x4_1).f0) x5_2).f0), .int .i64 ((rd_T87 ((rd_T85 l0_2 x4_1).f0) x5_2).f1), .int .i64 ((rd_T87 ((rd_T85 l0_2 x4_1).f0) x5_2).f2), .int .i64 ((rd_T87 ((rd_T85 l0_2 x4_1).f0) x5_2).f3), .int .i64 ((rd_T87 ((rd_T85 l0_2 x4_1).f0) x5_2).f4), .int .i64 ((rd_T87 ((rd_T85 l0_2 x4_1).f0) x5_2).f5), .string (⟨#[]⟩ : ByteArray), .slice none 0 0]) ?_ 6 _ rfl; (with_reducible repeat (first | refine blk_drewN ?_ _ | refine blk_drew ?_ | refine blk_alloc ?_ _)); refine blk_put (cs := #[.int .i64 ((rd_T87 ((rd_T85 l0_2 x4_1).f0) x5_2).f0), .int .i64 ((rd_T87 ((rd_T85 l0_2 x4_1).f0) x5_2).f1), .int .i64 ((rd_T87 ((rd_T85 l0_2 x4_1).f0) x5_2).f2), .int .i64 ((rd_T87 ((rd_T85 l0_2 x4_1).f0) x5_2).f3), .int .i64 ((rd_T87 ((rd_T85 l0_2 x4_1).f0) x5_2).f4), .int .i64 0, .string (⟨#[]⟩ : ByteArray), .slice none 0 0]) ?_ 5 _ rfl; (with_reducible repeat (first | refine blk_drewN ?_ _ | refine blk_drew ?_ | refine blk_alloc ?_ _)); refine blk_put (cs := #[.int .i64 ((rd_T87 ((rd_T85 l0_2 x4_1).f0) x5_2).f0), .int .i64 ((rd_T87 ((rd_T85 l0_2 x4_1).f0) x5_2).f1), .int .i64 ((rd_T87 ((rd_T85 l0_2 x4_1).f0) x5_2).f2), .int .i64 ((rd_T87 ((rd_T85 l0_2 x4_1).f0) x5_2).f3), .int .i64 0, .int .i64 0, .string (⟨#[]⟩ : ByteArray), .slice none 0 0]) ?_ 4 _ rfl; (with_reducible repeat (first | refine blk_drewN ?_ _ | refine blk_drew ?_ | refine blk_alloc ?_ _)); refine blk_put (cs := #[.int .i64 ((rd_T87 ((rd_T85 l0_2 x4_1).f0) x5_2).f0), .int .i64 ((rd_T87 ((rd_T85 l0_2 x4_1).f0) x5_2).f1), .int .i64 ((rd_T87 ((rd_T85 l0_2 x4_1).f0) x5_2).f2), .int .i64 0, .int .i64 0, .int .i64 0, .string (⟨#[]⟩ : ByteArray), .slice none 0 0]) ?_ 3 _ rfl; (with_reducible repeat (first | refine blk_drewN ?_ _ | refine blk_drew ?_ | refine blk_alloc ?_ _)); refine blk_put (cs := #[.int .i64 ((rd_T87 ((rd_T85 l0_2 x4_1).f0) x5_2).f0), .int .i64 ((rd_T87 ((rd_T85 l0_2 x4_1).f0) x5_2).f1), .int .i64 0, .int .i64 0, .int .i64 0, .int .i64 0, .string (⟨#[]⟩ : ByteArray), .slice none 0 0]) ?_ 2 _ rfl; (with_reducible repeat (first | refine blk_drewN ?_ _ | refine blk_drew ?_ | refine blk_alloc ?_ _)); refine blk_put (cs := #[.int .i64 ((rd_T87 ((rd_T85 l0_2 x4_1).f0) x5_2).f0), .int .i64 0, .int .i64 0, .int .i64 0, .int .i64 0, .int .i64 0, .string (⟨#[]⟩ : ByteArray), .slice none 0 0]) ?_ 1 _ rfl; (with_reducible repeat (first | refine blk_drewN ?_ _ | refine blk_drew ?_ | refine blk_alloc ?_ _)); refine blk_put (cs := #[.int .i64 0, .int .i64 0, .int .i64 0, .int .i64 0, .int .i64 0, .int .i64 0, .string (⟨#[]⟩ : ByteArray), .slice none 0 0]) ?_ 0 _ rfl; (with_reducible repeat (first | refine blk_drewN ?_ _ | refine blk_drew ?_ | refine blk_alloc ?_ _)); exact BK222.out⟩
                 have n2_ : Aside0 (Below w.heap.size w ((((((((w12.setCell ⟨gb222, 0, none⟩ (.int .i64 ((rd_T87 ((rd_T85 l0_2 x4_1).f0) x5_2).f0))).setCell ⟨gb222, 1, none⟩ (.int .i64 ((rd_T87 ((rd_T85 l0_2 x4_1).f0) x5_2).f1))).setCell ⟨gb222, 2, none⟩ (.int .i64 ((rd_T87 ((rd_T85 l0_2 x4_1).f0) x5_2).f2))).setCell ⟨gb222, 3, none⟩ (.int .i64 ((rd_T87 ((rd_T85 l0_2 x4_1).f0) x5_2).f3))).setCell ⟨gb222, 4, none⟩ (.int .i64 ((rd_T87 ((rd_T85 l0_2 x4_1).f0) x5_2).f4))).setCell ⟨gb222, 5, none⟩ (.int .i64 ((rd_T87 ((rd_T85 l0_2 x4_1).f0) x5_2).f5))).setCell ⟨gb222, 6, none⟩ (.string ((rd_T87 ((rd_T85 l0_2 x4_1).f0) x5_2).f6))).setCell ⟨gb222, 7, none⟩ (.slice A221_7 ((rd_T87 ((rd_T85 l0_2 x4_1).f0) x5_2).f7).length c221_7))) := ⟨ bz⟩
                 (try clear BK218)
                 (try clear BK222)
                 (try clear HB)
                 generalize ((((((((w12.setCell ⟨gb222, 0, none⟩ (.int .i64 ((rd_T87 ((rd_T85 l0_2 x4_1).f0) x5_2).f0))).setCell ⟨gb222, 1, none⟩ (.int .i64 ((rd_T87 ((rd_T85 l0_2 x4_1).f0) x5_2).f1))).setCell ⟨gb222, 2, none⟩ (.int .i64 ((rd_T87 ((rd_T85 l0_2 x4_1).f0) x5_2).f2))).setCell ⟨gb222, 3, none⟩ (.int .i64 ((rd_T87 ((rd_T85 l0_2 x4_1).f0) x5_2).f3))).setCell ⟨gb222, 4, none⟩ (.int .i64 ((rd_T87 ((rd_T85 l0_2 x4_1).f0) x5_2).f4))).setCell ⟨gb222, 5, none⟩ (.int .i64 ((rd_T87 ((rd_T85 l0_2 x4_1).f0) x5_2).f5))).setCell ⟨gb222, 6, none⟩ (.string ((rd_T87 ((rd_T85 l0_2 x4_1).f0) x5_2).f6))).setCell ⟨gb222, 7, none⟩ (.slice A221_7 ((rd_T87 ((rd_T85 l0_2 x4_1).f0) x5_2).f7).length c221_7)) = w15 at n0_ n1_ n2_ ⊢
                 have BK218 := n0_
                 have BK222 := n1_
                 have HB := n2_
                 clear n0_ n1_ n2_
                 have n0_ := Aside0.mk (blk_drew BK218.out)
                 have n1_ := Aside0.mk (blk_drew BK222.out)
                 have n2_ := Aside0.mk (below_drew1 HB.out)
                 clear BK218
                 clear BK222
                 clear HB
                 have BK218 := n0_
                 have BK222 := n1_
                 have HB := n2_
                 clear n0_ n1_ n2_
                 refine start_ (n := 7) (S := fun w' => w'.cell? ⟨gb222, 0, none⟩ = some (.int .i64 ((rd_T87 ((rd_T85 l0_2 x4_1).f0) x5_2).f0)) ∧ w'.cell? ⟨gb222, 1, none⟩ = some (.int .i64 ((rd_T87 ((rd_T85 l0_2 x4_1).f0) x5_2).f1)) ∧ w'.cell? ⟨gb222, 2, none⟩ = some (.int .i64 ((rd_T87 ((rd_T85 l0_2 x4_1).f0) x5_2).f2)) ∧ w'.cell? ⟨gb222, 3, none⟩ = some (.int .i64 ((rd_T87 ((rd_T85 l0_2 x4_1).f0) x5_2).f3)) ∧ w'.cell? ⟨gb222, 4, none⟩ = some (.int .i64 ((rd_T87 ((rd_T85 l0_2 x4_1).f0) x5_2).f4)) ∧ w'.cell? ⟨gb222, 5, none⟩ = some (.int .i64 ((rd_T87 ((rd_T85 l0_2 x4_1).f0) x5_2).f5)) ∧ w'.cell? ⟨gb222, 6, none⟩ = some (.string ((rd_T87 ((rd_T85 l0_2 x4_1).f0) x5_2).f6)) ∧ w'.cell? ⟨gb222, 7, none⟩ = some (.slice A221_7 ((rd_T87 ((rd_T85 l0_2 x4_1).f0) x5_2).f7).length c221_7)) (ds := []) #[false, false, false, false, false, false, false] (by kernel_rfl) rfl rfl ⟨(blk_cell BK222.out 0).trans rfl, (blk_cell BK222.out 1).trans rfl, (blk_cell BK222.out 2).trans rfl, (blk_cell BK222.out 3).trans rfl, (blk_cell BK222.out 4).trans rfl, (blk_cell BK222.out 5).trans rfl, (blk_cell BK222.out 6).trans rfl, (blk_cell BK222.out 7).trans rfl⟩ (fun hHeld => ?_)
                 generalize w15.drew = w16 at BK218 BK222 HB hHeld ⊢
                 refine pure_ (i := 2) (N := some 38) (v := ?_) (a' := ?_) #[false, false, true, false, false, false, false] rfl rfl (by kernel_rfl) (fun _ _ _ h => h) (Or.inl ⟨by rfl, ?_⟩) ?_ ?_
                 rotate_left
                 · intro w'
                   go_simp
                   with_reducible rfl
                 rotate_left
                 · simp only [Act.put, sx1, sx2, sx3, i64_w, i32_w]
                   rfl
                 refine take_ (i := 0) (N := some 36) (v := ?_) (a' := ?_) #[true, false, true, false, false, false, false] rfl rfl (by kernel_rfl) (fun _ _ _ h => h) (Or.inl ⟨by rfl, ?_⟩) hHeld ?_ ?_
                 rotate_left
                 · rintro w' ⟨s0, s1, s2, s3, s4, s5, s6, s7⟩
                   go_simp
                   with_reducible rfl
                 rotate_left
                 · simp only [Act.put, sx1, sx2, sx3, i64_w, i32_w]
                   rfl
                 refine take_ (i := 3) (N := some 39) (v := ?_) (a' := ?_) #[true, false, true, true, false, false, false] rfl rfl (by kernel_rfl) (fun _ _ _ h => h) (Or.inl ⟨by rfl, ?_⟩) hHeld ?_ ?_
                 rotate_left
                 · rintro w' ⟨s0, s1, s2, s3, s4, s5, s6, s7⟩
                   go_simp
                   with_reducible rfl
                 rotate_left
                 · simp only [Act.put, sx1, sx2, sx3, i64_w, i32_w]
                   rfl
                 refine join_ (σ := Value × Value) 2 #[true, true, true, true, true, false, false] (fun s_ => [(37, s_.1), (40, s_.2)]) (fun s_ w' => (w'.cell? ⟨gb222, 0, none⟩ = some (.int .i64 ((rd_T87 ((rd_T85 l0_2 x4_1).f0) x5_2).f0)) ∧ w'.cell? ⟨gb222, 1, none⟩ = some (.int .i64 ((rd_T87 ((rd_T85 l0_2 x4_1).f0) x5_2).f1)) ∧ w'.cell? ⟨gb222, 2, none⟩ = some (.int .i64 ((rd_T87 ((rd_T85 l0_2 x4_1).f0) x5_2).f2)) ∧ w'.cell? ⟨gb222, 3, none⟩ = some (.int .i64 ((rd_T87 ((rd_T85 l0_2 x4_1).f0) x5_2).f3)) ∧ w'.cell? ⟨gb222, 4, none⟩ = some (.int .i64 ((rd_T87 ((rd_T85 l0_2 x4_1).f0) x5_2).f4)) ∧ w'.cell? ⟨gb222, 5, none⟩ = some (.int .i64 ((rd_T87 ((rd_T85 l0_2 x4_1).f0) x5_2).f5)) ∧ w'.cell? ⟨gb222, 6, none⟩ = some (.string ((rd_T87 ((rd_T85 l0_2 x4_1).f0) x5_2).f6)) ∧ w'.cell? ⟨gb222, 7, none⟩ = some (.slice A221_7 ((rd_T87 ((rd_T85 l0_2 x4_1).f0) x5_2).f7).length c221_7)) ∧ (Kd.R (Kd.int .i64) 2 w' w.heap.size (fun k_ => some k_ ≠ (s_.2 : Value).ownBlock) s_.1 t223) ∧ (Kd.R (Kd.int .i64) 2 w' w.heap.size (fun k_ => some k_ ≠ (s_.1 : Value).ownBlock) s_.2 y226) ∧ (w'.heap[gb218]? = some (.cells #[.int .i64 a0_0, .slice A0_1 l0_1.length c0_1, .slice (some ad219) l0_2.length c0_2] 29 (0, 0))) ∧ (w'.heap[gb222]? = some (.cells #[.int .i64 ((rd_T87 ((rd_T85 l0_2 x4_1).f0) x5_2).f0), .int .i64 ((rd_T87 ((rd_T85 l0_2 x4_1).f0) x5_2).f1), .int .i64 ((rd_T87 ((rd_T85 l0_2 x4_1).f0) x5_2).f2), .int .i64 ((rd_T87 ((rd_T85 l0_2 x4_1).f0) x5_2).f3), .int .i64 ((rd_T87 ((rd_T85 l0_2 x4_1).f0) x5_2).f4), .int .i64 ((rd_T87 ((rd_T85 l0_2 x4_1).f0) x5_2).f5), .string ((rd_T87 ((rd_T85 l0_2 x4_1).f0) x5_2).f6), .slice A221_7 ((rd_T87 ((rd_T85 l0_2 x4_1).f0) x5_2).f7).length c221_7] 87 (0, 0))) ∧ (Below w.heap.size w w')) ?_ ?_
                 rotate_left
                 · intro hCont
                   refine two_ (i := 1) (j := 4) (Ni := some 37) (Nj := some 40) #[true, true, true, true, false, false, false] #[true, false, true, true, true, false, false] rfl rfl rfl rfl (by kernel_rfl) (by decide) (by decide) (fun K hK => ?_) (fun K hK => ?_)
                   · skip
                     refine goes_ Try.func116 (by kernel_rfl) rfl #[.agg #[.int .i64 ((rd_T87 ((rd_T85 l0_2 x4_1).f0) x5_2).f0), .int .i64 ((rd_T87 ((rd_T85 l0_2 x4_1).f0) x5_2).f1), .int .i64 ((rd_T87 ((rd_T85 l0_2 x4_1).f0) x5_2).f2), .int .i64 ((rd_T87 ((rd_T85 l0_2 x4_1).f0) x5_2).f3), .int .i64 ((rd_T87 ((rd_T85 l0_2 x4_1).f0) x5_2).f4), .int .i64 ((rd_T87 ((rd_T85 l0_2 x4_1).f0) x5_2).f5), .string ((rd_T87 ((rd_T85 l0_2 x4_1).f0) x5_2).f6), .slice A221_7 ((rd_T87 ((rd_T85 l0_2 x4_1).f0) x5_2).f7).length c221_7]] (by rfl) rfl rfl lz ?_
                     with_reducible refine (spec_Reads.calls k2 ((rd_T87 ((rd_T85 l0_2 x4_1).f0) x5_2).f0) ((rd_T87 ((rd_T85 l0_2 x4_1).f0) x5_2).f1) ((rd_T87 ((rd_T85 l0_2 x4_1).f0) x5_2).f2) ((rd_T87 ((rd_T85 l0_2 x4_1).f0) x5_2).f3) ((rd_T87 ((rd_T85 l0_2 x4_1).f0) x5_2).f4) ((rd_T87 ((rd_T85 l0_2 x4_1).f0) x5_2).f5) ((rd_T87 ((rd_T85 l0_2 x4_1).f0) x5_2).f6) _ _ ((rd_T87 ((rd_T85 l0_2 x4_1).f0) x5_2).f7) t223 _ ?side1 ?side2 A9.out).mono ?_
                     (case side1 => exact cz HR221_7.out)
                     (case side2 => exact HC221_7.out)
                     rintro e w17 ⟨v224, rfl, ho0, hb⟩
                     refine ⟨_, rfl, ?_⟩
                     have n0_ := Aside0.mk (Kd.R_lower ho0 (below_size bz))
                     have n1_ := Aside0.mk (blk_below (g := gb218) (o := .cells #[.int .i64 a0_0, .slice A0_1 l0_1.length c0_1, .slice (some ad219) l0_2.length c0_2] 29 (0, 0)) kz hb)
                     have n2_ := Aside0.mk (blk_below (g := gb222) (o := .cells #[.int .i64 ((rd_T87 ((rd_T85 l0_2 x4_1).f0) x5_2).f0), .int .i64 ((rd_T87 ((rd_T85 l0_2 x4_1).f0) x5_2).f1), .int .i64 ((rd_T87 ((rd_T85 l0_2 x4_1).f0) x5_2).f2), .int .i64 ((rd_T87 ((rd_T85 l0_2 x4_1).f0) x5_2).f3), .int .i64 ((rd_T87 ((rd_T85 l0_2 x4_1).f0) x5_2).f4), .int .i64 ((rd_T87 ((rd_T85 l0_2 x4_1).f0) x5_2).f5), .string ((rd_T87 ((rd_T85 l0_2 x4_1).f0) x5_2).f6), .slice A221_7 ((rd_T87 ((rd_T85 l0_2 x4_1).f0) x5_2).f7).length c221_7] 87 (0, 0)) kz hb)
                     have n3_ := Aside0.mk (below_step bz hb)
                     clear BK218
                     clear BK222
                     clear HB
                     have HO225 := n0_
                     have BK218 := n1_
                     have BK222 := n2_
                     have HB := n3_
                     clear n0_ n1_ n2_ n3_
                     (try clear hb)
                     (try clear hb2)
                     (try clear hk)
                     (try clear hi)
                     (try clear ho0)
                     refine hK.out _ _ ⟨(blk_cell BK222.out 0).trans rfl, (blk_cell BK222.out 1).trans rfl, (blk_cell BK222.out 2).trans rfl, (blk_cell BK222.out 3).trans rfl, (blk_cell BK222.out 4).trans rfl, (blk_cell BK222.out 5).trans rfl, (blk_cell BK222.out 6).trans rfl, (blk_cell BK222.out 7).trans rfl⟩ (fun hHeld => ?_)
                     clear hK K
                     refine norm_ (a' := ?_) ?_ ?_
                     rotate_left
                     · show Act.put _ (some 37) _ = _
                       simp only [Act.put, sx1, sx2, sx3, i64_w, i32_w]
                       rfl
                     refine one_ (i := 4) (N := some 40) #[true, true, true, true, true, false, false] rfl rfl (by kernel_rfl) (by decide) (fun K hK => ?_)
                     refine Kd.R_lit_step (Kd.int .i64) _ 2 ?hg (N := 40) ?hd (xs := ([(rd_T87 ((rd_T85 l0_2 x4_1).f0) x5_2).f1] : List Int)) (inner := [.int .i64 ((rd_T87 ((rd_T85 l0_2 x4_1).f0) x5_2).f1)]) (ok := fun _ => True) (okp := fun _ => True) ?hr ?hp (fun _ hk => hk) trivial (Below.refl _ _) (Nat.le_refl _) (by simp) ?_; (case hd => rfl); (case hg => rfl); (case hr => first | (go_simp; done) | (go_simp; rfl)); (case hp => exact (Reps.one (show Kd.M (Kd.int .i64) _ _ _ ((rd_T87 ((rd_T85 l0_2 x4_1).f0) x5_2).f1) [.int .i64 ((rd_T87 ((rd_T85 l0_2 x4_1).f0) x5_2).f1)] from rfl) (Reps.none _ _)))
                     intro v227 w18 ho19 hb hg_ hnew_
                     clear hg_ hnew_
                     (first | rw [← Ny226.out] at ho19 | (simp only [Int.reduceToNat] at ho19; rw [← Ny226.out] at ho19))
                     have n0_ := Aside0.mk (Kd.R_elder' (rz HO225.out) (Kd.R_base ho19) hb)
                     have n1_ := Aside0.mk (Kd.R_lower (Kd.R_new' ho19 (Kd.R_lt (rz HO225.out))) (below_size bz))
                     have n2_ := Aside0.mk (blk_below (g := gb218) (o := .cells #[.int .i64 a0_0, .slice A0_1 l0_1.length c0_1, .slice (some ad219) l0_2.length c0_2] 29 (0, 0)) kz hb)
                     have n3_ := Aside0.mk (blk_below (g := gb222) (o := .cells #[.int .i64 ((rd_T87 ((rd_T85 l0_2 x4_1).f0) x5_2).f0), .int .i64 ((rd_T87 ((rd_T85 l0_2 x4_1).f0) x5_2).f1), .int .i64 ((rd_T87 ((rd_T85 l0_2 x4_1).f0) x5_2).f2), .int .i64 ((rd_T87 ((rd_T85 l0_2 x4_1).f0) x5_2).f3), .int .i64 ((rd_T87 ((rd_T85 l0_2 x4_1).f0) x5_2).f4), .int .i64 ((rd_T87 ((rd_T85 l0_2 x4_1).f0) x5_2).f5), .string ((rd_T87 ((rd_T85 l0_2 x4_1).f0) x5_2).f6), .slice A221_7 ((rd_T87 ((rd_T85 l0_2 x4_1).f0) x5_2).f7).length c221_7] 87 (0, 0)) kz hb)
                     have n4_ := Aside0.mk (below_step bz hb)
                     clear HO225
                     clear BK218
                     clear BK222
                     clear HB
                     have HO225 := n0_
                     have HO228 := n1_
                     have BK218 := n2_
                     have BK222 := n3_
                     have HB := n4_
                     clear n0_ n1_ n2_ n3_ n4_
                     clear hb ho19
                     refine hK.out _ _ ⟨(blk_cell BK222.out 0).trans rfl, (blk_cell BK222.out 1).trans rfl, (blk_cell BK222.out 2).trans rfl, (blk_cell BK222.out 3).trans rfl, (blk_cell BK222.out 4).trans rfl, (blk_cell BK222.out 5).trans rfl, (blk_cell BK222.out 6).trans rfl, (blk_cell BK222.out 7).trans rfl⟩ (fun hHeld => ?_)
                     clear hK K
                     refine norm_ (a' := ?_) ?_ ?_
                     rotate_left
                     · show Act.put _ (some 40) _ = _
                       simp only [Act.put, sx1, sx2, sx3, i64_w, i32_w]
                       rfl
                     exact norm_ (by simp only [putAll, Act.put, sx1, sx2, sx3]) (hCont (v224, v227) _ ⟨hHeld, (by (with_reducible repeat (first | apply Kd.R_alloc | apply Kd.R_drewN | apply Kd.R_drew)); exact Kd.R_mono HO225.out (fun _ hk => hk.2)), (by (with_reducible repeat (first | apply Kd.R_alloc | apply Kd.R_drewN | apply Kd.R_drew)); exact Kd.R_mono HO228.out (fun _ hk => hk.2)), kz, kz, bz⟩)
                   · skip
                     refine Kd.R_lit_step (Kd.int .i64) _ 2 ?hg (N := 40) ?hd (xs := ([(rd_T87 ((rd_T85 l0_2 x4_1).f0) x5_2).f1] : List Int)) (inner := [.int .i64 ((rd_T87 ((rd_T85 l0_2 x4_1).f0) x5_2).f1)]) (ok := fun _ => True) (okp := fun _ => True) ?hr ?hp (fun _ hk => hk) trivial (Below.refl _ _) (Nat.le_refl _) (by simp) ?_; (case hd => rfl); (case hg => rfl); (case hr => first | (go_simp; done) | (go_simp; rfl)); (case hp => exact (Reps.one (show Kd.M (Kd.int .i64) _ _ _ ((rd_T87 ((rd_T85 l0_2 x4_1).f0) x5_2).f1) [.int .i64 ((rd_T87 ((rd_T85 l0_2 x4_1).f0) x5_2).f1)] from rfl) (Reps.none _ _)))
                     intro v227 w17 ho18 hb hg_ hnew_
                     clear hg_ hnew_
                     (first | rw [← Ny226.out] at ho18 | (simp only [Int.reduceToNat] at ho18; rw [← Ny226.out] at ho18))
                     have n0_ := Aside0.mk (Kd.R_lower ho18 (below_size bz))
                     have n1_ := Aside0.mk (blk_below (g := gb218) (o := .cells #[.int .i64 a0_0, .slice A0_1 l0_1.length c0_1, .slice (some ad219) l0_2.length c0_2] 29 (0, 0)) kz hb)
                     have n2_ := Aside0.mk (blk_below (g := gb222) (o := .cells #[.int .i64 ((rd_T87 ((rd_T85 l0_2 x4_1).f0) x5_2).f0), .int .i64 ((rd_T87 ((rd_T85 l0_2 x4_1).f0) x5_2).f1), .int .i64 ((rd_T87 ((rd_T85 l0_2 x4_1).f0) x5_2).f2), .int .i64 ((rd_T87 ((rd_T85 l0_2 x4_1).f0) x5_2).f3), .int .i64 ((rd_T87 ((rd_T85 l0_2 x4_1).f0) x5_2).f4), .int .i64 ((rd_T87 ((rd_T85 l0_2 x4_1).f0) x5_2).f5), .string ((rd_T87 ((rd_T85 l0_2 x4_1).f0) x5_2).f6), .slice A221_7 ((rd_T87 ((rd_T85 l0_2 x4_1).f0) x5_2).f7).length c221_7] 87 (0, 0)) kz hb)
                     have n3_ := Aside0.mk (below_step bz hb)
                     clear BK218
                     clear BK222
                     clear HB
                     have HO228 := n0_
                     have BK218 := n1_
                     have BK222 := n2_
                     have HB := n3_
                     clear n0_ n1_ n2_ n3_
                     clear hb ho18
                     refine hK.out _ _ ⟨(blk_cell BK222.out 0).trans rfl, (blk_cell BK222.out 1).trans rfl, (blk_cell BK222.out 2).trans rfl, (blk_cell BK222.out 3).trans rfl, (blk_cell BK222.out 4).trans rfl, (blk_cell BK222.out 5).trans rfl, (blk_cell BK222.out 6).trans rfl, (blk_cell BK222.out 7).trans rfl⟩ (fun hHeld => ?_)
                     clear hK K
                     refine norm_ (a' := ?_) ?_ ?_
                     rotate_left
                     · show Act.put _ (some 40) _ = _
                       simp only [Act.put, sx1, sx2, sx3, i64_w, i32_w]
                       rfl
                     refine one_ (i := 1) (N := some 37) #[true, true, true, true, true, false, false] rfl rfl (by kernel_rfl) (by decide) (fun K hK => ?_)
                     refine goes_ Try.func116 (by kernel_rfl) rfl #[.agg #[.int .i64 ((rd_T87 ((rd_T85 l0_2 x4_1).f0) x5_2).f0), .int .i64 ((rd_T87 ((rd_T85 l0_2 x4_1).f0) x5_2).f1), .int .i64 ((rd_T87 ((rd_T85 l0_2 x4_1).f0) x5_2).f2), .int .i64 ((rd_T87 ((rd_T85 l0_2 x4_1).f0) x5_2).f3), .int .i64 ((rd_T87 ((rd_T85 l0_2 x4_1).f0) x5_2).f4), .int .i64 ((rd_T87 ((rd_T85 l0_2 x4_1).f0) x5_2).f5), .string ((rd_T87 ((rd_T85 l0_2 x4_1).f0) x5_2).f6), .slice A221_7 ((rd_T87 ((rd_T85 l0_2 x4_1).f0) x5_2).f7).length c221_7]] (by rfl) rfl rfl lz ?_
                     with_reducible refine (spec_Reads.calls k2 ((rd_T87 ((rd_T85 l0_2 x4_1).f0) x5_2).f0) ((rd_T87 ((rd_T85 l0_2 x4_1).f0) x5_2).f1) ((rd_T87 ((rd_T85 l0_2 x4_1).f0) x5_2).f2) ((rd_T87 ((rd_T85 l0_2 x4_1).f0) x5_2).f3) ((rd_T87 ((rd_T85 l0_2 x4_1).f0) x5_2).f4) ((rd_T87 ((rd_T85 l0_2 x4_1).f0) x5_2).f5) ((rd_T87 ((rd_T85 l0_2 x4_1).f0) x5_2).f6) _ _ ((rd_T87 ((rd_T85 l0_2 x4_1).f0) x5_2).f7) t223 _ ?side1 ?side2 A9.out).mono ?_
                     (case side1 => exact cz HR221_7.out)
                     (case side2 => exact HC221_7.out)
                     rintro e w19 ⟨v224, rfl, ho0, hb⟩
                     refine ⟨_, rfl, ?_⟩
                     have n0_ := Aside0.mk (Kd.R_elder' (rz HO228.out) (Kd.R_base ho0) hb)
                     have n1_ := Aside0.mk (Kd.R_lower (Kd.R_new' ho0 (Kd.R_lt (rz HO228.out))) (below_size bz))
                     have n2_ := Aside0.mk (blk_below (g := gb218) (o := .cells #[.int .i64 a0_0, .slice A0_1 l0_1.length c0_1, .slice (some ad219) l0_2.length c0_2] 29 (0, 0)) kz hb)
                     have n3_ := Aside0.mk (blk_below (g := gb222) (o := .cells #[.int .i64 ((rd_T87 ((rd_T85 l0_2 x4_1).f0) x5_2).f0), .int .i64 ((rd_T87 ((rd_T85 l0_2 x4_1).f0) x5_2).f1), .int .i64 ((rd_T87 ((rd_T85 l0_2 x4_1).f0) x5_2).f2), .int .i64 ((rd_T87 ((rd_T85 l0_2 x4_1).f0) x5_2).f3), .int .i64 ((rd_T87 ((rd_T85 l0_2 x4_1).f0) x5_2).f4), .int .i64 ((rd_T87 ((rd_T85 l0_2 x4_1).f0) x5_2).f5), .string ((rd_T87 ((rd_T85 l0_2 x4_1).f0) x5_2).f6), .slice A221_7 ((rd_T87 ((rd_T85 l0_2 x4_1).f0) x5_2).f7).length c221_7] 87 (0, 0)) kz hb)
                     have n4_ := Aside0.mk (below_step bz hb)
                     clear HO228
                     clear BK218
                     clear BK222
                     clear HB
                     have HO228 := n0_
                     have HO225 := n1_
                     have BK218 := n2_
                     have BK222 := n3_
                     have HB := n4_
                     clear n0_ n1_ n2_ n3_ n4_
                     (try clear hb)
                     (try clear hb2)
                     (try clear hk)
                     (try clear hi)
                     (try clear ho0)
                     refine hK.out _ _ ⟨(blk_cell BK222.out 0).trans rfl, (blk_cell BK222.out 1).trans rfl, (blk_cell BK222.out 2).trans rfl, (blk_cell BK222.out 3).trans rfl, (blk_cell BK222.out 4).trans rfl, (blk_cell BK222.out 5).trans rfl, (blk_cell BK222.out 6).trans rfl, (blk_cell BK222.out 7).trans rfl⟩ (fun hHeld => ?_)
                     clear hK K
                     refine norm_ (a' := ?_) ?_ ?_
                     rotate_left
                     · show Act.put _ (some 37) _ = _
                       simp only [Act.put, sx1, sx2, sx3, i64_w, i32_w]
                       rfl
                     exact norm_ (by simp only [putAll, Act.put, sx1, sx2, sx3]) (hCont (v224, v227) _ ⟨hHeld, (by (with_reducible repeat (first | apply Kd.R_alloc | apply Kd.R_drewN | apply Kd.R_drew)); exact Kd.R_mono HO225.out (fun _ hk => hk.2)), (by (with_reducible repeat (first | apply Kd.R_alloc | apply Kd.R_drewN | apply Kd.R_drew)); exact Kd.R_mono HO228.out (fun _ hk => hk.2)), kz, kz, bz⟩)
                 rintro ⟨v224, v227⟩ w20 ⟨hS_, h0_, h1_, h2_, h3_, h4_⟩
                 have n0_ : Aside0 (Kd.R (Kd.int .i64) 2 w20 w.heap.size (fun k_ => some k_ ≠ (v227 : Value).ownBlock) v224 t223) := ⟨h0_⟩
                 have n1_ : Aside0 (Kd.R (Kd.int .i64) 2 w20 w.heap.size (fun k_ => some k_ ≠ (v224 : Value).ownBlock) v227 y226) := ⟨h1_⟩
                 have n2_ : Aside0 (w20.heap[gb218]? = some (.cells #[.int .i64 a0_0, .slice A0_1 l0_1.length c0_1, .slice (some ad219) l0_2.length c0_2] 29 (0, 0))) := ⟨h2_⟩
                 have n3_ : Aside0 (w20.heap[gb222]? = some (.cells #[.int .i64 ((rd_T87 ((rd_T85 l0_2 x4_1).f0) x5_2).f0), .int .i64 ((rd_T87 ((rd_T85 l0_2 x4_1).f0) x5_2).f1), .int .i64 ((rd_T87 ((rd_T85 l0_2 x4_1).f0) x5_2).f2), .int .i64 ((rd_T87 ((rd_T85 l0_2 x4_1).f0) x5_2).f3), .int .i64 ((rd_T87 ((rd_T85 l0_2 x4_1).f0) x5_2).f4), .int .i64 ((rd_T87 ((rd_T85 l0_2 x4_1).f0) x5_2).f5), .string ((rd_T87 ((rd_T85 l0_2 x4_1).f0) x5_2).f6), .slice A221_7 ((rd_T87 ((rd_T85 l0_2 x4_1).f0) x5_2).f7).length c221_7] 87 (0, 0))) := ⟨h3_⟩
                 have n4_ : Aside0 (Below w.heap.size w w20) := ⟨h4_⟩
                 clear BK218
                 clear BK222
                 clear HB
                 clear h0_ h1_ h2_ h3_ h4_
                 have HO225 := n0_
                 have HO228 := n1_
                 have BK218 := n2_
                 have BK222 := n3_
                 have HB := n4_
                 clear n0_ n1_ n2_ n3_ n4_
                 have hHeld : w20.cell? ⟨gb222, 0, none⟩ = some (.int .i64 ((rd_T87 ((rd_T85 l0_2 x4_1).f0) x5_2).f0)) ∧ w20.cell? ⟨gb222, 1, none⟩ = some (.int .i64 ((rd_T87 ((rd_T85 l0_2 x4_1).f0) x5_2).f1)) ∧ w20.cell? ⟨gb222, 2, none⟩ = some (.int .i64 ((rd_T87 ((rd_T85 l0_2 x4_1).f0) x5_2).f2)) ∧ w20.cell? ⟨gb222, 3, none⟩ = some (.int .i64 ((rd_T87 ((rd_T85 l0_2 x4_1).f0) x5_2).f3)) ∧ w20.cell? ⟨gb222, 4, none⟩ = some (.int .i64 ((rd_T87 ((rd_T85 l0_2 x4_1).f0) x5_2).f4)) ∧ w20.cell? ⟨gb222, 5, none⟩ = some (.int .i64 ((rd_T87 ((rd_T85 l0_2 x4_1).f0) x5_2).f5)) ∧ w20.cell? ⟨gb222, 6, none⟩ = some (.string ((rd_T87 ((rd_T85 l0_2 x4_1).f0) x5_2).f6)) ∧ w20.cell? ⟨gb222, 7, none⟩ = some (.slice A221_7 ((rd_T87 ((rd_T85 l0_2 x4_1).f0) x5_2).f7).length c221_7) := hS_
                 obtain ⟨Ao22, co22, eo22⟩ := Kd.R_slice HO228.out
                 (first | subst eo22 | (injection eo22 with f1_ f2_ f3_; have f4_ := f1_.symm; have f5_ := f3_.symm; clear f1_ f2_ f3_; subst f4_; subst f5_))
                 refine norm_ (a' := ?_) ?_ ?_
                 rotate_left
                 · simp only [putAll, Act.put, sx1, sx2, sx3]
                   rfl
                 refine one_ (i := 5) (N := some 41) #[true, true, true, true, true, true, false] rfl rfl (by kernel_rfl) (by decide) (fun K hK => ?_)
                 refine Kd.R_append_rows_step (Kd.int .i64) (w0 := w) w.heap.size (by rfl) (.tmp 37) (.tmp 40) 22 2 (.int .i64 0) 8 rfl Try.underlying22 info2 rfl (by decide) (by omega) v224 t223 y226 _ _ _ (fun k_ => some k_ ≠ (.slice Ao22 y226.length co22 : Value).ownBlock) (fun _ => False) rfl rfl ?aO ?aR (fun _ _ h => h) (fun _ h => h.elim) ?aF ?aB ?aS ?aL ?_
                 (case aR => repeat (first | exact (Kd.R_reads' HO228.out).2.2 | (with_reducible refine Kd.C_alloc ?_ _) | (with_reducible refine Kd.C_drewN ?_ _) | (with_reducible refine Kd.C_drew ?_)))
                 (case aB => exact bz)
                 (case aF => exact (fun k_ hk => Kd.fresh' (Kd.R_lt (rz HO228.out)) k_ hk))
                 (case aO => exact (rz HO225.out))
                 (case aS => exact (below_size bz))
                 (case aL => have := LMc10.out; omega)
                 intro v230 w21 ho hb hg hat
                 rw [← Ny229.out] at ho
                 have n0_ := Aside0.mk (blk_grown (g := gb218) (o := .cells #[.int .i64 a0_0, .slice A0_1 l0_1.length c0_1, .slice (some ad219) l0_2.length c0_2] 29 (0, 0)) kz hg (Kd.R_ne HO225.out BK218.out (by decide)))
                 have n1_ := Aside0.mk (blk_grown (g := gb222) (o := .cells #[.int .i64 ((rd_T87 ((rd_T85 l0_2 x4_1).f0) x5_2).f0), .int .i64 ((rd_T87 ((rd_T85 l0_2 x4_1).f0) x5_2).f1), .int .i64 ((rd_T87 ((rd_T85 l0_2 x4_1).f0) x5_2).f2), .int .i64 ((rd_T87 ((rd_T85 l0_2 x4_1).f0) x5_2).f3), .int .i64 ((rd_T87 ((rd_T85 l0_2 x4_1).f0) x5_2).f4), .int .i64 ((rd_T87 ((rd_T85 l0_2 x4_1).f0) x5_2).f5), .string ((rd_T87 ((rd_T85 l0_2 x4_1).f0) x5_2).f6), .slice A221_7 ((rd_T87 ((rd_T85 l0_2 x4_1).f0) x5_2).f7).length c221_7] 87 (0, 0)) kz hg (Kd.R_ne HO225.out BK222.out (by decide)))
                 have n2_ := Aside0.mk (Kd.R_after (ok := (fun _ => True)) (by (with_reducible repeat (first | apply Kd.R_alloc | apply Kd.R_drewN | apply Kd.R_drew)); exact Kd.R_mono HO228.out (fun _ hk => ⟨trivial, hk⟩)) hg hat)
                 have n3_ := Aside0.mk (hb)
                 have n4_ := Aside0.mk (ho)
                 clear BK218
                 clear BK222
                 clear HO228
                 clear HB
                 clear HO225
                 have BK218 := n0_
                 have BK222 := n1_
                 have HO228 := n2_
                 have HB := n3_
                 have HO231 := n4_
                 clear n0_ n1_ n2_ n3_ n4_
                 clear ho hb hg hat
                 refine hK.out _ _ ⟨(blk_cell BK222.out 0).trans rfl, (blk_cell BK222.out 1).trans rfl, (blk_cell BK222.out 2).trans rfl, (blk_cell BK222.out 3).trans rfl, (blk_cell BK222.out 4).trans rfl, (blk_cell BK222.out 5).trans rfl, (blk_cell BK222.out 6).trans rfl, (blk_cell BK222.out 7).trans rfl⟩ (fun hHeld => ?_)
                 clear hK K
                 refine norm_ (a' := ?_) ?_ ?_
                 rotate_left
                 · show Act.put _ (some 41) _ = _
                   simp only [Act.put, sx1, sx2, sx3, i64_w, i32_w]
                   rfl
                 refine pure_ (i := 6) (N := some 7) (v := ?_) (a' := ?_) #[true, true, true, true, true, true, true] rfl rfl (by kernel_rfl) (fun _ _ _ h => h) (Or.inl ⟨by rfl, ?_⟩) ?_ ?_
                 rotate_left
                 · intro w'
                   go_simp
                   with_reducible rfl
                 rotate_left
                 · simp only [Act.put, sx1, sx2, sx3, i64_w, i32_w]
                   rfl
                 refine done_ (by kernel_rfl) ?_
                 try go_wp2
                 go_loopg [3, 8] k2 (fun kq v3 v8 w' => ∃ (x3_3 : Int) (x8_3 : Int), v3 = .int .i64 x3_3 ∧ v8 = .int .i64 x8_3 ∧ Aside0 (spec_l18Most.l2 kq x3_3 x4_1 x5_2 y229 x8_3 a0_0 l0_1 l0_2 = some r) ∧ Aside0 (kq ≤ k2) ∧ Aside0 (Kd.R (Kd.int .i64) 2 w' w.heap.size (fun _ => True) v230 y229) ∧ Aside0 (w'.heap[gb218]? = some (.cells #[.int .i64 a0_0, (.slice A0_1 l0_1.length c0_1), (.slice (some ad219) l0_2.length c0_2)] 29 (0, 0))) ∧ Aside0 (w'.heap[gb222]? = some (.cells #[.int .i64 ((rd_T87 ((rd_T85 l0_2 x4_1).f0) x5_2).f0), .int .i64 ((rd_T87 ((rd_T85 l0_2 x4_1).f0) x5_2).f1), .int .i64 ((rd_T87 ((rd_T85 l0_2 x4_1).f0) x5_2).f2), .int .i64 ((rd_T87 ((rd_T85 l0_2 x4_1).f0) x5_2).f3), .int .i64 ((rd_T87 ((rd_T85 l0_2 x4_1).f0) x5_2).f4), .int .i64 ((rd_T87 ((rd_T85 l0_2 x4_1).f0) x5_2).f5), .string ((rd_T87 ((rd_T85 l0_2 x4_1).f0) x5_2).f6), (.slice A221_7 ((rd_T87 ((rd_T85 l0_2 x4_1).f0) x5_2).f7).length c221_7)] 87 (0, 0))) ∧ Aside0 (Below w.heap.size w w'))
                 case atStart => exact ⟨(x3_2), (0), sz_, sz_, H', ⟨Nat.le_refl _⟩, ⟨by (with_reducible repeat (first | apply Kd.R_alloc | apply Kd.R_drewN | apply Kd.R_drew)); exact Kd.R_mono HO231.out (fun _ hk => trivial)⟩, ⟨ kz⟩, ⟨ kz⟩, ⟨ bz⟩⟩
                 case round =>
                  clear H'
                  try clear c1
                  try clear c2
                  try clear p2
                  try clear q2
                  try clear hx2
                  try clear c3
                  try clear c3b0
                  try clear c5
                  try clear c5b0
                  try clear c6
                  try clear c6b0
                  try clear c7
                  try clear c7b0
                  try clear c8
                  try clear c8b0
                  try clear c10
                  try clear c11
                  try clear c12
                  try clear c13
                  try clear c21
                  try clear p21
                  try clear q21
                  try clear hx21
                  try clear c22
                  try clear p22
                  try clear q22
                  try clear hx22
                  try clear hcz11_0
                  try clear hcz11_1
                  try clear hcz11_2
                  try clear hcz14_0
                  try clear hcz14_1
                  try clear hcz14_2
                  try clear hcz14_3
                  try clear hcz14_4
                  try clear hcz14_5
                  try clear hcz14_6
                  try clear hcz14_7
                  try clear hcz4_0
                  try clear hcz4_1
                  try clear hcz4_2
                  try clear hfz11_0
                  try clear hfz11_1
                  try clear hfz11_2
                  try clear hfz14_0
                  try clear hfz14_1
                  try clear hfz14_2
                  try clear hfz14_3
                  try clear hfz14_4
                  try clear hfz14_5
                  try clear hfz14_6
                  try clear hfz14_7
                  try clear hfz4_0
                  try clear hfz4_1
                  try clear hfz4_2
                  try clear hx219_0
                  try clear hx220_0
                  try clear hx221_0
                  try clear hx221_1
                  try clear hx221_2
                  try clear hx221_3
                  try clear hx221_4
                  try clear hx221_5
                  try clear hx221_6
                  try clear hx221_7
                  try clear p2
                  try clear p219
                  try clear p220
                  try clear p221
                  try clear q219
                  try clear q220
                  try clear q221
                  obtain ⟨x3_3, x8_3, rfl, rfl, HA, HK3, HO_7, BK218, BK222, HB⟩ := hrel
                  cases gk with
                  | zero => exact absurd HA.out (by simp [spec_l18Most.l2])
                  | succ k3 =>
                   have H := HA.out
                   clear HA
                   simp only [spec_l18Most.l2] at H
                   by_cases c23 : x8_3 < (y229.length : Int)
                   · rw [if_pos c23] at H
                     have c23b0 : decide (x8_3 < (y229.length : Int)) = true := decide_eq_true c23
                     clear c23
                     by_cases c24 : 0 ≤ x8_3
                     · rw [if_pos c24] at H
                       have c24b0 : decide (0 ≤ x8_3) = true := decide_eq_true c24
                       clear c24
                       by_cases c25 : (rd y229 x8_3) ≥ x3_3
                       · rw [if_pos c25] at H
                         have c25b0 : decide (x3_3 ≤ (rd y229 x8_3)) = true := decide_eq_true c25
                         clear c25
                         by_cases c26 : (rd y229 x8_3) < 1048576
                         · rw [if_pos c26] at H
                           have c26b0 : decide ((rd y229 x8_3) < 1048576) = true := decide_eq_true c26
                           clear c26
                           have H' := Aside0.mk H
                           clear H
                           obtain ⟨Ao27, co27, eo27⟩ := Kd.R_slice HO_7.out
                           subst eo27
                           have p232 : 0 ≤ (x8_3 : Int) := of_decide_eq_true az
                           have q232 : x8_3 < (y229.length : Int) := of_decide_eq_true az
                           obtain ⟨ad232, e232, hx232_0⟩ := Kd.at_int (Kd.R_reads' HO_7.out).2.2 x8_3 p232 q232
                           cases e232
                           replace p232 := eq_true p232
                           replace q232 := eq_true q232
                           have p233 : 0 ≤ (x8_3 : Int) := of_decide_eq_true az
                           have q233 : x8_3 < (y229.length : Int) := of_decide_eq_true az
                           obtain ⟨ad233, e233, hx233_0⟩ := Kd.at_int (Kd.R_reads' HO_7.out).2.2 x8_3 p233 q233
                           obtain rfl : ad232 = ad233 := (by injection e233)
                           replace p233 := eq_true p233
                           replace q233 := eq_true q233
                           have p234 : 0 ≤ (x8_3 : Int) := of_decide_eq_true az
                           have q234 : x8_3 < (y229.length : Int) := of_decide_eq_true az
                           obtain ⟨ad234, e234, hx234_0⟩ := Kd.at_int (Kd.R_reads' HO_7.out).2.2 x8_3 p234 q234
                           obtain rfl : ad232 = ad234 := (by injection e234)
                           replace p234 := eq_true p234
                           replace q234 := eq_true q234
                           go_wp2
                           go_roundg k3
                           case measure => have := HK1.out; have := HK2.out; have := HK3.out; omega
                           case rel => exact ⟨(wrap64 ((rd y229 x8_3) + 1)), (wrap64 (x8_3 + 1)), sz_, sz_, H', ⟨by have := HK1.out; have := HK2.out; have := HK3.out; omega⟩, ⟨by (with_reducible repeat (first | apply Kd.R_alloc | apply Kd.R_drewN | apply Kd.R_drew)); exact HO_7.out⟩, ⟨ kz⟩, ⟨ kz⟩, ⟨ bz⟩⟩
                         · rw [if_neg c26] at H
                           have c26b0 : decide ((rd y229 x8_3) < 1048576) = false := decide_eq_false c26
                           clear c26
                           have H' := Aside0.mk H
                           clear H
                           obtain ⟨Ao28, co28, eo28⟩ := Kd.R_slice HO_7.out
                           subst eo28
                           have p232 : 0 ≤ (x8_3 : Int) := of_decide_eq_true az
                           have q232 : x8_3 < (y229.length : Int) := of_decide_eq_true az
                           obtain ⟨ad232, e232, hx232_0⟩ := Kd.at_int (Kd.R_reads' HO_7.out).2.2 x8_3 p232 q232
                           cases e232
                           replace p232 := eq_true p232
                           replace q232 := eq_true q232
                           have p233 : 0 ≤ (x8_3 : Int) := of_decide_eq_true az
                           have q233 : x8_3 < (y229.length : Int) := of_decide_eq_true az
                           obtain ⟨ad233, e233, hx233_0⟩ := Kd.at_int (Kd.R_reads' HO_7.out).2.2 x8_3 p233 q233
                           obtain rfl : ad232 = ad233 := (by injection e233)
                           replace p233 := eq_true p233
                           replace q233 := eq_true q233
                           go_wp2
                           go_roundg k3
                           case measure => have := HK1.out; have := HK2.out; have := HK3.out; omega
                           case rel => exact ⟨(x3_3), (wrap64 (x8_3 + 1)), sz_, sz_, H', ⟨by have := HK1.out; have := HK2.out; have := HK3.out; omega⟩, ⟨by (with_reducible repeat (first | apply Kd.R_alloc | apply Kd.R_drewN | apply Kd.R_drew)); exact HO_7.out⟩, ⟨ kz⟩, ⟨ kz⟩, ⟨ bz⟩⟩
                       · rw [if_neg c25] at H
                         have c25b0 : decide (x3_3 ≤ (rd y229 x8_3)) = false := decide_eq_false c25
                         clear c25
                         have H' := Aside0.mk H
                         clear H
                         obtain ⟨Ao29, co29, eo29⟩ := Kd.R_slice HO_7.out
                         subst eo29
                         have p232 : 0 ≤ (x8_3 : Int) := of_decide_eq_true az
                         have q232 : x8_3 < (y229.length : Int) := of_decide_eq_true az
                         obtain ⟨ad232, e232, hx232_0⟩ := Kd.at_int (Kd.R_reads' HO_7.out).2.2 x8_3 p232 q232
                         cases e232
                         replace p232 := eq_true p232
                         replace q232 := eq_true q232
                         go_wp2
                         go_roundg k3
                         case measure => have := HK1.out; have := HK2.out; have := HK3.out; omega
                         case rel => exact ⟨(x3_3), (wrap64 (x8_3 + 1)), sz_, sz_, H', ⟨by have := HK1.out; have := HK2.out; have := HK3.out; omega⟩, ⟨by (with_reducible repeat (first | apply Kd.R_alloc | apply Kd.R_drewN | apply Kd.R_drew)); exact HO_7.out⟩, ⟨ kz⟩, ⟨ kz⟩, ⟨ bz⟩⟩
                     · rw [if_neg c24] at H
                       exact absurd H (by simp)
                   · rw [if_neg c23] at H
                     have c23b0 : decide (x8_3 < (y229.length : Int)) = false := decide_eq_false c23
                     clear c23
                     have H' := Aside0.mk H
                     clear H
                     obtain ⟨Ao30, co30, eo30⟩ := Kd.R_slice HO_7.out
                     subst eo30
                     go_wp2
                     go_roundg k3
                     case measure => have := HK1.out; have := HK2.out; have := HK3.out; omega
                     case rel => exact ⟨(x3_3), (wrap64 (x5_2 + 1)), sz_, sz_, H', ⟨by have := HK1.out; have := HK2.out; have := HK3.out; omega⟩, ⟨ kz⟩, ⟨ bz⟩⟩
               · rw [if_neg c10] at H
                 exact absurd H (by simp)
             · rw [if_neg c8] at H
               exact absurd H (by simp)
           · rw [if_neg c7] at H
             have c7b0 : decide (x5_2 < (((rd_T85 l0_2 x4_1).f0).length : Int)) = false := decide_eq_false c7
             clear c7
             have H' := Aside0.mk H
             clear H
             have hcz31_0 : wr.cell? ⟨gb218, 0, none⟩ = some (.int .i64 a0_0) := (blk_cell BK218.out 0).trans rfl
             have hcz31_1 : wr.cell? ⟨gb218, 1, none⟩ = some (.slice A0_1 l0_1.length c0_1) := (blk_cell BK218.out 1).trans rfl
             have hcz31_2 : wr.cell? ⟨gb218, 2, none⟩ = some (.slice A0_2 l0_2.length c0_2) := (blk_cell BK218.out 2).trans rfl
             have hfz31_0 := blk_frozen BK218.out 0
             have hfz31_1 := blk_frozen BK218.out 1
             have hfz31_2 := blk_frozen BK218.out 2
             have p219 : 0 ≤ (x4_1 : Int) := of_decide_eq_true az
             have q219 : x4_1 < (l0_2.length : Int) := of_decide_eq_true az
             obtain ⟨ad219, A219_0, c219_0, e219, hx219_0, hl219_0, hi219_0⟩ := at_T85 HR0_2.out x4_1 p219 q219
             cases e219
             replace hx219_0 := ck HB hx219_0
             have HR219_0 := Aside0.mk hi219_0
             have HC219_0 := Aside0.mk hl219_0
             clear hi219_0 hl219_0
             replace p219 := eq_true p219
             replace q219 := eq_true q219
             go_wp2
             go_roundg k2
             case measure => have := HK1.out; have := HK2.out; omega
             case rel => exact ⟨(x3_2), (wrap64 (x4_1 + 1)), sz_, sz_, H', ⟨by have := HK1.out; have := HK2.out; omega⟩, ⟨ kz⟩, ⟨ bz⟩⟩
         · rw [if_neg c6] at H
           exact absurd H (by simp)
       · rw [if_neg c5] at H
         exact absurd H (by simp)
   · rw [if_neg c3] at H
     have c3b0 : decide (x4_1 < (l0_2.length : Int)) = false := decide_eq_false c3
     clear c3
     obtain rfl := Option.some.inj H
     have hcz32_0 : wr.cell? ⟨gb218, 0, none⟩ = some (.int .i64 a0_0) := (blk_cell BK218.out 0).trans rfl
     have hcz32_1 : wr.cell? ⟨gb218, 1, none⟩ = some (.slice A0_1 l0_1.length c0_1) := (blk_cell BK218.out 1).trans rfl
     have hcz32_2 : wr.cell? ⟨gb218, 2, none⟩ = some (.slice A0_2 l0_2.length c0_2) := (blk_cell BK218.out 2).trans rfl
     have hfz32_0 := blk_frozen BK218.out 0
     have hfz32_1 := blk_frozen BK218.out 1
     have hfz32_2 := blk_frozen BK218.out 2
     go_wp2
     go_ret
     exact ⟨by first | rfl | (simp [errW_none, errW_some] <;> rfl) | (simp [*, errW_none, errW_some] <;> rfl), bz⟩

set_option linter.unusedVariables false
set_option linter.unusedSimpArgs false

mutual
def spec_l18Ahead.j0 : Nat → List Bool → Bool → Int → Int → Int → Int → Int → Int → ByteArray → List Int → Option (List Bool)
 | 0, _, _, _, _, _, _, _, _, _, _ => none
 | k + 1, x5, x20, x236000, x236001, x236002, x236003, x236004, x236005, x236006, x236007 => if x20 = true then (if 0 ≤ x236001 then (if x236001 < (x5.length : Int) then (spec_l18Ahead.j1 k (x5.set (x236001 : Int).toNat false) x236000 x236001 x236002 x236003 x236004 x236005 x236006 x236007) else (none)) else (none)) else (spec_l18Ahead.j1 k x5 x236000 x236001 x236002 x236003 x236004 x236005 x236006 x236007)
def spec_l18Ahead.j1 : Nat → List Bool → Int → Int → Int → Int → Int → Int → ByteArray → List Int → Option (List Bool)
 | 0, _, _, _, _, _, _, _, _, _ => none
 | k + 1, x5, x236000, x236001, x236002, x236003, x236004, x236005, x236006, x236007 => (spec_Reads.f k x236000 x236001 x236002 x236003 x236004 x236005 x236006 x236007).bind fun t243 => (spec_l18Ahead.l0 k x5 t243 0)
def spec_l18Ahead.l0 : Nat → List Bool → List Int → Int → Option (List Bool)
 | 0, _, _, _ => none
 | k + 1, x5, x6, x7 => if x7 < (x6.length : Int) then (if 0 ≤ x7 then (if (rd x6 x7) < (x5.length : Int) then (if 0 ≤ (rd x6 x7) then (spec_l18Ahead.l0 k (x5.set ((rd x6 x7) : Int).toNat true) x6 (wrap64 (x7 + 1))) else (none)) else (spec_l18Ahead.l0 k x5 x6 (wrap64 (x7 + 1)))) else (none)) else (some x5)
end
def spec_l18Ahead.f (k : Nat) (a0_0 : Int) (a0_1 : Int) (a0_2 : Int) (a0_3 : Int) (a0_4 : Int) (a0_5 : Int) (a0_6 : ByteArray) (l0_7 : List Int) (l1 : List Bool) : Option (List Bool) := (some (([] : List Bool) : List Bool)).bind fun y236 => (if y236.length + l1.length < 140737488355328 then ((some (y236 ++ l1 : List Bool)).bind fun y239 => (if a0_1 ≥ 0 then (spec_l18Ahead.j0 k y239 (decide (a0_1 < (y239.length : Int))) a0_0 a0_1 a0_2 a0_3 a0_4 a0_5 a0_6 l0_7) else (spec_l18Ahead.j0 k y239 false a0_0 a0_1 a0_2 a0_3 a0_4 a0_5 a0_6 l0_7))) else (none))
set_option maxHeartbeats 8000000 in
set_option maxRecDepth 100000 in
theorem spec_l18Ahead.calls (k : Nat) (a0_0 : Int) (a0_1 : Int) (a0_2 : Int) (a0_3 : Int) (a0_4 : Int) (a0_5 : Int) (a0_6 : ByteArray) (A0_7 : Option Addr) (c0_7 : Nat) (l0_7 : List Int) (A1 : Option Addr) (c1 : Nat) (l1 : List Bool) (r : List Bool) (w : World) (hr0_7 : Kd.C (Kd.int .i64) w A0_7 l0_7.length l0_7) (hc0_7 : l0_7.length ≤ c0_7) (hr1 : Kd.C Kd.bool w A1 l1.length l1) (hc1 : l1.length ≤ c1) (h : spec_l18Ahead.f k a0_0 a0_1 a0_2 a0_3 a0_4 a0_5 a0_6 l0_7 l1 = some r) :
 Calls Try.prog 156 #[.agg #[.int .i64 a0_0, .int .i64 a0_1, .int .i64 a0_2, .int .i64 a0_3, .int .i64 a0_4, .int .i64 a0_5, .string a0_6, .slice A0_7 l0_7.length c0_7], .slice A1 l1.length c1] w fun e w' => ∃ v0_ : Value, e = .returned (v0_) ∧ Kd.R Kd.bool 4 w' w.heap.size (fun _ => True) v0_ r ∧ Below w.heap.size w w' := by
 have hu87 := Try.underlying87
 have HR0_7 := Aside0.mk hr0_7
 have HC0_7 := Aside0.mk hc0_7
 clear hr0_7 hc0_7
 have HR1 := Aside0.mk hr1
 have HC1 := Aside0.mk hc1
 clear hr1 hc1
 have HB := Aside0.mk (Below.refl w.heap.size w)
 have H : ((some (([] : List Bool) : List Bool)).bind fun y236 => (if y236.length + l1.length < 140737488355328 then ((some (y236 ++ l1 : List Bool)).bind fun y239 => (if a0_1 ≥ 0 then (spec_l18Ahead.j0 k y239 (decide (a0_1 < (y239.length : Int))) a0_0 a0_1 a0_2 a0_3 a0_4 a0_5 a0_6 l0_7) else (spec_l18Ahead.j0 k y239 false a0_0 a0_1 a0_2 a0_3 a0_4 a0_5 a0_6 l0_7))) else (none))) = some r := h
 clear h
 obtain ⟨y236, hy236⟩ : ∃ y_ : List Bool, y_ = (([] : List Bool)) := ⟨_, rfl⟩
 replace H : (if y236.length + l1.length < 140737488355328 then ((some (y236 ++ l1 : List Bool)).bind fun y239 => (if a0_1 ≥ 0 then (spec_l18Ahead.j0 k y239 (decide (a0_1 < (y239.length : Int))) a0_0 a0_1 a0_2 a0_3 a0_4 a0_5 a0_6 l0_7) else (spec_l18Ahead.j0 k y239 false a0_0 a0_1 a0_2 a0_3 a0_4 a0_5 a0_6 l0_7))) else (none)) = some r := by first | (rw [hy236]; with_reducible exact H) | (have H2_ := (Option.bind_some _ _).symm.trans H; rw [hy236]; with_reducible exact H2_) | (have H2_ := (Option.bind_some _ _).symm.trans H; with_reducible exact H2_) | with_reducible exact H | (rw [hy236]; exact H) | exact H
 have Ny236 := Aside0.mk hy236
 clear hy236
 by_cases c3 : y236.length + l1.length < 140737488355328
 · rw [if_pos c3] at H
   have LMc3 := Aside0.mk c3
   clear c3
   obtain ⟨y239, hy239⟩ : ∃ y_ : List Bool, y_ = (y236 ++ l1) := ⟨_, rfl⟩
   replace H : (if a0_1 ≥ 0 then (spec_l18Ahead.j0 k y239 (decide (a0_1 < (y239.length : Int))) a0_0 a0_1 a0_2 a0_3 a0_4 a0_5 a0_6 l0_7) else (spec_l18Ahead.j0 k y239 false a0_0 a0_1 a0_2 a0_3 a0_4 a0_5 a0_6 l0_7)) = some r := by first | (rw [hy239]; with_reducible exact H) | (have H2_ := (Option.bind_some _ _).symm.trans H; rw [hy239]; with_reducible exact H2_) | (have H2_ := (Option.bind_some _ _).symm.trans H; with_reducible exact H2_) | with_reducible exact H | (rw [hy239]; exact H) | exact H
   have Ny239 := Aside0.mk hy239
   clear hy239
   have HC4 := Aside0.mk H
   clear H
   go_enter Try.func156, Try.ntmps156
   go_upto_region 2 with (first | ((with_reducible refine gate_dst (N := 2) rfl ?_); (try (refine gate_guard (by rfl) ?_; dsimp only)); refine box_event ?hg (N := 2) ?hd (cs := #[.int .i64 a0_0, .int .i64 a0_1, .int .i64 a0_2, .int .i64 a0_3, .int .i64 a0_4, .int .i64 a0_5, .string a0_6, .slice A0_7 l0_7.length c0_7]) (t := 87) ?hr ?_; (case hd => rfl); (case hg => rfl); (case hr => first | (go_simp; done) | (go_simp; rfl)); intro gb235 hg w5 hbox hb; have n0_ := Aside0.mk (below_step bz hb); have n1_ := Aside0.mk (hbox); have n2_ := Aside0.mk ((by rw [hg]; exact (below_size bz) : w.heap.size ≤ gb235)); have n3_ := Aside0.mk ((by rw [hg]; exact (below_size bz) : w.heap.size ≤ gb235)); clear HB; have HB := n0_; have BK235 := n1_; have GW235 := n2_; have GE235 := n3_; clear n0_ n1_ n2_ n3_; clear hb hbox hg) | ((with_reducible refine gate_dst (N := 8) rfl ?_); (try (refine gate_guard (by rfl) ?_; dsimp only)); refine Kd.R_lit Kd.bool _ 4 ?hg (N := 8) ?hd (xs := ([] : List Bool)) (inner := []) (ok := fun _ => True) (okp := fun _ => True) ?hr ?hp (fun _ hk => hk) trivial (Below.refl _ _) (Nat.le_refl _) (by simp) ?_; (case hd => rfl); (case hg => rfl); (case hr => first | (go_simp; done) | (go_simp; rfl)); (case hp => exact (Reps.none _ _)); intro v237 w6 ho7 hb hg_ hnew_; clear hg_ hnew_; (first | rw [← Ny236.out] at ho7 | (simp only [Int.reduceToNat] at ho7; rw [← Ny236.out] at ho7)); have n0_ := Aside0.mk (Kd.R_lower ho7 (below_size bz)); have n1_ := Aside0.mk (blk_below (g := gb235) (o := .cells #[.int .i64 a0_0, .int .i64 a0_1, .int .i64 a0_2, .int .i64 a0_3, .int .i64 a0_4, .int .i64 a0_5, .string a0_6, .slice A0_7 l0_7.length c0_7] 87 (0, 0)) kz hb); have n2_ := Aside0.mk (below_step bz hb); clear BK235; clear HB; have HO238 := n0_; have BK235 := n1_; have HB := n2_; clear n0_ n1_ n2_; clear hb ho7) | ((with_reducible refine gate_builtin (b := .append) (xs := #[.tmp 8, .tmp 9]) rfl ?_); (try (refine gate_guard (by rfl) ?_; dsimp only)); at_builtin; refine Kd.R_append_rows Kd.bool (w0 := w) w.heap.size rfl (.tmp 8) (.tmp 9) 97 4 (.bool false) 1 rfl Try.underlying97 info4 rfl (by decide) (by omega) v237 y236 l1 _ _ _ (fun _ => True) (fun _ => False) rfl rfl ?aO ?aR (fun _ _ h => h) (fun _ h => h.elim) ?aF ?aB ?aS ?aL ?_; (case aR => exact cz HR1.out); (case aB => exact bz); (case aF => exact (fun _ _ => trivial)); (case aO => exact (rz HO238.out)); (case aS => exact (below_size bz)); (case aL => have := LMc3.out; omega); intro v240 w8 ho hb hg hat; rw [← Ny239.out] at ho; have n0_ := Aside0.mk (blk_grown (g := gb235) (o := .cells #[.int .i64 a0_0, .int .i64 a0_1, .int .i64 a0_2, .int .i64 a0_3, .int .i64 a0_4, .int .i64 a0_5, .string a0_6, .slice A0_7 l0_7.length c0_7] 87 (0, 0)) kz hg (Kd.R_ne HO238.out BK235.out (by decide))); have n1_ := Aside0.mk (hb); have n2_ := Aside0.mk (ho); clear BK235; clear HB; clear HO238; have BK235 := n0_; have HB := n1_; have HO241 := n2_; clear n0_ n1_ n2_; clear ho hb hg hat))
   (try simp only [Act.put, sx1, sx2, sx3])
   go_cut [20] (fun v20 wc => ∃ (kq : Nat) (x20_3 : Bool), v20 = .bool x20_3 ∧ Aside0 (spec_l18Ahead.j0 kq y239 x20_3 a0_0 a0_1 a0_2 a0_3 a0_4 a0_5 a0_6 l0_7 = some r) ∧ Aside0 (kq ≤ k) ∧ Aside0 (Kd.R Kd.bool 4 wc w.heap.size (fun _ => True) v240 y239) ∧ Aside0 (wc.heap[gb235]? = some (.cells #[.int .i64 a0_0, .int .i64 a0_1, .int .i64 a0_2, .int .i64 a0_3, .int .i64 a0_4, .int .i64 a0_5, .string a0_6, (.slice A0_7 l0_7.length c0_7)] 87 (0, 0))) ∧ Aside0 (Below w.heap.size w wc))
   case first =>
    have H := HC4.out
    clear HC4
    by_cases c9 : a0_1 ≥ 0
    · rw [if_pos c9] at H
      have c9b0 : decide (0 ≤ a0_1) = true := decide_eq_true c9
      clear c9
      (first | rw [c9b0] | (simp only [i64_w, i32_w]; rw [c9b0]) | skip)
      have H' := Aside0.mk H
      clear H
      have hcz10_0 : w8.cell? ⟨gb235, 0, none⟩ = some (.int .i64 a0_0) := (blk_cell BK235.out 0).trans rfl
      have hcz10_1 : w8.cell? ⟨gb235, 1, none⟩ = some (.int .i64 a0_1) := (blk_cell BK235.out 1).trans rfl
      have hcz10_2 : w8.cell? ⟨gb235, 2, none⟩ = some (.int .i64 a0_2) := (blk_cell BK235.out 2).trans rfl
      have hcz10_3 : w8.cell? ⟨gb235, 3, none⟩ = some (.int .i64 a0_3) := (blk_cell BK235.out 3).trans rfl
      have hcz10_4 : w8.cell? ⟨gb235, 4, none⟩ = some (.int .i64 a0_4) := (blk_cell BK235.out 4).trans rfl
      have hcz10_5 : w8.cell? ⟨gb235, 5, none⟩ = some (.int .i64 a0_5) := (blk_cell BK235.out 5).trans rfl
      have hcz10_6 : w8.cell? ⟨gb235, 6, none⟩ = some (.string a0_6) := (blk_cell BK235.out 6).trans rfl
      have hcz10_7 : w8.cell? ⟨gb235, 7, none⟩ = some (.slice A0_7 l0_7.length c0_7) := (blk_cell BK235.out 7).trans rfl
      have hfz10_0 := blk_frozen BK235.out 0
      have hfz10_1 := blk_frozen BK235.out 1
      have hfz10_2 := blk_frozen BK235.out 2
      have hfz10_3 := blk_frozen BK235.out 3
      have hfz10_4 := blk_frozen BK235.out 4
      have hfz10_5 := blk_frozen BK235.out 5
      have hfz10_6 := blk_frozen BK235.out 6
      have hfz10_7 := blk_frozen BK235.out 7
      obtain ⟨Ao11, co11, eo11⟩ := Kd.R_slice HO241.out
      subst eo11
      go_wp2
      go_meet
      case rel => exact ⟨_, (decide (a0_1 < (y239.length : Int))), sz_, H', ⟨by first | omega | exact Nat.le_refl _⟩, ⟨by (with_reducible repeat (first | apply Kd.R_alloc | apply Kd.R_drewN | apply Kd.R_drew)); exact HO241.out⟩, ⟨ kz⟩, ⟨ bz⟩⟩
    · rw [if_neg c9] at H
      have c9b0 : decide (0 ≤ a0_1) = false := decide_eq_false c9
      clear c9
      (first | rw [c9b0] | (simp only [i64_w, i32_w]; rw [c9b0]) | skip)
      have H' := Aside0.mk H
      clear H
      have hcz12_0 : w8.cell? ⟨gb235, 0, none⟩ = some (.int .i64 a0_0) := (blk_cell BK235.out 0).trans rfl
      have hcz12_1 : w8.cell? ⟨gb235, 1, none⟩ = some (.int .i64 a0_1) := (blk_cell BK235.out 1).trans rfl
      have hcz12_2 : w8.cell? ⟨gb235, 2, none⟩ = some (.int .i64 a0_2) := (blk_cell BK235.out 2).trans rfl
      have hcz12_3 : w8.cell? ⟨gb235, 3, none⟩ = some (.int .i64 a0_3) := (blk_cell BK235.out 3).trans rfl
      have hcz12_4 : w8.cell? ⟨gb235, 4, none⟩ = some (.int .i64 a0_4) := (blk_cell BK235.out 4).trans rfl
      have hcz12_5 : w8.cell? ⟨gb235, 5, none⟩ = some (.int .i64 a0_5) := (blk_cell BK235.out 5).trans rfl
      have hcz12_6 : w8.cell? ⟨gb235, 6, none⟩ = some (.string a0_6) := (blk_cell BK235.out 6).trans rfl
      have hcz12_7 : w8.cell? ⟨gb235, 7, none⟩ = some (.slice A0_7 l0_7.length c0_7) := (blk_cell BK235.out 7).trans rfl
      have hfz12_0 := blk_frozen BK235.out 0
      have hfz12_1 := blk_frozen BK235.out 1
      have hfz12_2 := blk_frozen BK235.out 2
      have hfz12_3 := blk_frozen BK235.out 3
      have hfz12_4 := blk_frozen BK235.out 4
      have hfz12_5 := blk_frozen BK235.out 5
      have hfz12_6 := blk_frozen BK235.out 6
      have hfz12_7 := blk_frozen BK235.out 7
      go_wp2
      go_meet
      case rel => exact ⟨_, (false), sz_, H', ⟨by first | omega | exact Nat.le_refl _⟩, ⟨by (with_reducible repeat (first | apply Kd.R_alloc | apply Kd.R_drewN | apply Kd.R_drew)); exact HO241.out⟩, ⟨ kz⟩, ⟨ bz⟩⟩
   case rest =>
    clear HC4
    try clear c1
    try clear p2
    try clear c3
    try clear c9
    try clear c9b0
    try clear hcz10_0
    try clear hcz10_1
    try clear hcz10_2
    try clear hcz10_3
    try clear hcz10_4
    try clear hcz10_5
    try clear hcz10_6
    try clear hcz10_7
    try clear hcz12_0
    try clear hcz12_1
    try clear hcz12_2
    try clear hcz12_3
    try clear hcz12_4
    try clear hcz12_5
    try clear hcz12_6
    try clear hcz12_7
    try clear hfz10_0
    try clear hfz10_1
    try clear hfz10_2
    try clear hfz10_3
    try clear hfz10_4
    try clear hfz10_5
    try clear hfz10_6
    try clear hfz10_7
    try clear hfz12_0
    try clear hfz12_1
    try clear hfz12_2
    try clear hfz12_3
    try clear hfz12_4
    try clear hfz12_5
    try clear hfz12_6
    try clear hfz12_7
    obtain ⟨kq, x20_3, rfl, HA, HJ3, HO_5, BK235, HB⟩ := hcut
    cases kq with
    | zero => exact absurd HA.out (by simp [spec_l18Ahead.j0])
    | succ kj3 =>
     have H := HA.out
     clear HA
     simp only [spec_l18Ahead.j0] at H
     have HC13 := Aside0.mk H
     clear H
     go_upto_if 20 with (fail)
     go_cut [] (fun wc => ∃ (kq : Nat) (x5_12 : List Bool), Aside0 (spec_l18Ahead.j1 kq x5_12 a0_0 a0_1 a0_2 a0_3 a0_4 a0_5 a0_6 l0_7 = some r) ∧ Aside0 (kq ≤ kj3) ∧ Aside0 (Kd.R Kd.bool 4 wc w.heap.size (fun _ => True) v240 x5_12) ∧ Aside0 (wc.heap[gb235]? = some (.cells #[.int .i64 a0_0, .int .i64 a0_1, .int .i64 a0_2, .int .i64 a0_3, .int .i64 a0_4, .int .i64 a0_5, .string a0_6, (.slice A0_7 l0_7.length c0_7)] 87 (0, 0))) ∧ Aside0 (Below w.heap.size w wc))
     case first =>
      have H := HC13.out
      clear HC13
      by_cases c14 : x20_3 = true
      · subst c14
        have H1 : (if 0 ≤ a0_1 then (if a0_1 < (y239.length : Int) then (spec_l18Ahead.j1 kj3 (y239.set (a0_1 : Int).toNat false) a0_0 a0_1 a0_2 a0_3 a0_4 a0_5 a0_6 l0_7) else (none)) else (none)) = some r := by rw [if_pos rfl] at H; exact H
        clear H
        have H := H1
        clear H1
        by_cases c15 : 0 ≤ a0_1
        · rw [if_pos c15] at H
          have c15b0 : decide (0 ≤ a0_1) = true := decide_eq_true c15
          clear c15
          (first | rw [c15b0] | (simp only [i64_w, i32_w]; rw [c15b0]) | skip)
          by_cases c16 : a0_1 < (y239.length : Int)
          · rw [if_pos c16] at H
            have c16b0 : decide (a0_1 < (y239.length : Int)) = true := decide_eq_true c16
            clear c16
            obtain ⟨y242, hy242⟩ : ∃ y_ : List Bool, y_ = (y239.set (a0_1 : Int).toNat false) := ⟨_, rfl⟩
            replace H : (spec_l18Ahead.j1 kj3 y242 a0_0 a0_1 a0_2 a0_3 a0_4 a0_5 a0_6 l0_7) = some r := by first | (rw [hy242]; with_reducible exact H) | (have H2_ := (Option.bind_some _ _).symm.trans H; rw [hy242]; with_reducible exact H2_) | (have H2_ := (Option.bind_some _ _).symm.trans H; with_reducible exact H2_) | with_reducible exact H | (rw [hy242]; exact H) | exact H
            have Ny242 := Aside0.mk hy242
            clear hy242
            have H' := Aside0.mk H
            clear H
            have hcz18_0 : wc.cell? ⟨gb235, 0, none⟩ = some (.int .i64 a0_0) := (blk_cell BK235.out 0).trans rfl
            have hcz18_1 : wc.cell? ⟨gb235, 1, none⟩ = some (.int .i64 a0_1) := (blk_cell BK235.out 1).trans rfl
            have hcz18_2 : wc.cell? ⟨gb235, 2, none⟩ = some (.int .i64 a0_2) := (blk_cell BK235.out 2).trans rfl
            have hcz18_3 : wc.cell? ⟨gb235, 3, none⟩ = some (.int .i64 a0_3) := (blk_cell BK235.out 3).trans rfl
            have hcz18_4 : wc.cell? ⟨gb235, 4, none⟩ = some (.int .i64 a0_4) := (blk_cell BK235.out 4).trans rfl
            have hcz18_5 : wc.cell? ⟨gb235, 5, none⟩ = some (.int .i64 a0_5) := (blk_cell BK235.out 5).trans rfl
            have hcz18_6 : wc.cell? ⟨gb235, 6, none⟩ = some (.string a0_6) := (blk_cell BK235.out 6).trans rfl
            have hcz18_7 : wc.cell? ⟨gb235, 7, none⟩ = some (.slice A0_7 l0_7.length c0_7) := (blk_cell BK235.out 7).trans rfl
            have hfz18_0 := blk_frozen BK235.out 0
            have hfz18_1 := blk_frozen BK235.out 1
            have hfz18_2 := blk_frozen BK235.out 2
            have hfz18_3 := blk_frozen BK235.out 3
            have hfz18_4 := blk_frozen BK235.out 4
            have hfz18_5 := blk_frozen BK235.out 5
            have hfz18_6 := blk_frozen BK235.out 6
            have hfz18_7 := blk_frozen BK235.out 7
            have p17 : 0 ≤ (a0_1 : Int) := of_decide_eq_true az
            have q17 : (a0_1 : Int) < ((y239.length : Int) : Int) := of_decide_eq_true az
            obtain ⟨go17, co17, eo17, gb17, gl17, cl17, HG17⟩ := Kd.R_form HO_5.out (by omega)
            (first | cases eo17 | (injection eo17 with ea_ en_ ec_; (first | subst ea_ | (injection ea_ with ea_; subst ea_)); subst ec_; clear en_))
            have GB17 := Aside0.mk gb17
            have GG17 := Aside0.mk HG17
            clear gb17 gl17 HG17
            obtain ⟨hx17_0, hf17_0⟩ := Kd.R_celln false HO_5.out (a0_1 : Int) p17 q17
            replace p17 := eq_true p17
            replace q17 := eq_true q17
            have HP19 := Kd.R_putg HO_5.out (a0_1 : Int) false
            go_wp2_with (first | ((with_reducible refine gate_store (t := 4) (p := 24) rfl ?_); refine store_event (t := 4) (p := 24) (v := ?vo_w20) (w1 := (wc.setCell ⟨go17, (a0_1 : Int).toNat, none⟩ (.bool false))) ?hg ?ho ?hn ?hr ?_; (case ho => rfl); (case hg => rfl); (case hn => rfl); (case hr => first | (go_simp; done) | (go_simp; rfl)); intro w20 hw; have hg : wc.grownBy w20 (some go17) := (by rw [hw]; exact HP19.2); have hp_ : Kd.R Kd.bool 4 w20 w.heap.size (fun _ => True) (.slice (some ⟨go17, 0, none⟩) y239.length co17) y242 := (by rw [hw, Ny242.out]; exact HP19.1); clear HP19; have n0_ := Aside0.mk (hp_); have n1_ := Aside0.mk (blk_grown (g := gb235) (o := .cells #[.int .i64 a0_0, .int .i64 a0_1, .int .i64 a0_2, .int .i64 a0_3, .int .i64 a0_4, .int .i64 a0_5, .string a0_6, .slice A0_7 l0_7.length c0_7] 87 (0, 0)) kz hg (Kd.R_ne HO_5.out BK235.out (by decide))); have n2_ := Aside0.mk ((by rw [hw]; exact below_set (HB.out) GB17.out : Below w.heap.size w w20)); clear HO_5; clear BK235; clear HB; have HO_5 := n0_; have BK235 := n1_; have HB := n2_; clear n0_ n1_ n2_; clear hg hw hp_))
            go_meet
            case rel => exact ⟨_, (y242), H', ⟨by have := HJ3.out; first | omega | exact Nat.le_refl _⟩, ⟨by (with_reducible repeat (first | apply Kd.R_alloc | apply Kd.R_drewN | apply Kd.R_drew)); exact HO_5.out⟩, ⟨ kz⟩, ⟨ bz⟩⟩
          · rw [if_neg c16] at H
            exact absurd H (by simp)
        · rw [if_neg c15] at H
          exact absurd H (by simp)
      · replace c14 := Bool.eq_false_iff.mpr c14
        subst c14
        have H1 : (spec_l18Ahead.j1 kj3 y239 a0_0 a0_1 a0_2 a0_3 a0_4 a0_5 a0_6 l0_7) = some r := by rw [if_neg (show ¬ (false = true) by decide)] at H; exact H
        clear H
        have H := H1
        clear H1
        have H' := Aside0.mk H
        clear H
        go_wp2
        go_meet
        case rel => exact ⟨_, (y239), H', ⟨by have := HJ3.out; first | omega | exact Nat.le_refl _⟩, ⟨by (with_reducible repeat (first | apply Kd.R_alloc | apply Kd.R_drewN | apply Kd.R_drew)); exact HO_5.out⟩, ⟨ kz⟩, ⟨ bz⟩⟩
     case rest =>
      clear HC13
      try clear c1
      try clear p1
      try clear q1
      try clear hx1
      try clear p2
      try clear c3
      try clear c9
      try clear c9b0
      try clear c14
      try clear c15
      try clear c15b0
      try clear c16
      try clear c16b0
      try clear p17
      try clear q17
      try clear hx17
      try clear hf17
      try clear hcz10_0
      try clear hcz10_1
      try clear hcz10_2
      try clear hcz10_3
      try clear hcz10_4
      try clear hcz10_5
      try clear hcz10_6
      try clear hcz10_7
      try clear hcz12_0
      try clear hcz12_1
      try clear hcz12_2
      try clear hcz12_3
      try clear hcz12_4
      try clear hcz12_5
      try clear hcz12_6
      try clear hcz12_7
      try clear hcz18_0
      try clear hcz18_1
      try clear hcz18_2
      try clear hcz18_3
      try clear hcz18_4
      try clear hcz18_5
      try clear hcz18_6
      try clear hcz18_7
      try clear hfz10_0
      try clear hfz10_1
      try clear hfz10_2
      try clear hfz10_3
      try clear hfz10_4
      try clear hfz10_5
      try clear hfz10_6
      try clear hfz10_7
      try clear hfz12_0
      try clear hfz12_1
      try clear hfz12_2
      try clear hfz12_3
      try clear hfz12_4
      try clear hfz12_5
      try clear hfz12_6
      try clear hfz12_7
      try clear hfz18_0
      try clear hfz18_1
      try clear hfz18_2
      try clear hfz18_3
      try clear hfz18_4
      try clear hfz18_5
      try clear hfz18_6
      try clear hfz18_7
      try clear hx17_0
      try clear p17
      try clear p2
      try clear q17
      obtain ⟨kq, x5_12, HA, HJ12, HO_5, BK235, HB⟩ := hcut
      cases kq with
      | zero => exact absurd HA.out (by simp [spec_l18Ahead.j1])
      | succ kj12 =>
       have H := HA.out
       clear HA
       simp only [spec_l18Ahead.j1] at H
       replace H := Option.bind_eq_some_iff.mp H
       obtain ⟨t243, A210, H⟩ := H
       replace H : (spec_l18Ahead.l0 kj12 x5_12 t243 0) = some r := H
       have A21 := Aside0.mk A210
       clear A210
       have H' := Aside0.mk H
       clear H
       have hcz22_0 : wc.cell? ⟨gb235, 0, none⟩ = some (.int .i64 a0_0) := (blk_cell BK235.out 0).trans rfl
       have hcz22_1 : wc.cell? ⟨gb235, 1, none⟩ = some (.int .i64 a0_1) := (blk_cell BK235.out 1).trans rfl
       have hcz22_2 : wc.cell? ⟨gb235, 2, none⟩ = some (.int .i64 a0_2) := (blk_cell BK235.out 2).trans rfl
       have hcz22_3 : wc.cell? ⟨gb235, 3, none⟩ = some (.int .i64 a0_3) := (blk_cell BK235.out 3).trans rfl
       have hcz22_4 : wc.cell? ⟨gb235, 4, none⟩ = some (.int .i64 a0_4) := (blk_cell BK235.out 4).trans rfl
       have hcz22_5 : wc.cell? ⟨gb235, 5, none⟩ = some (.int .i64 a0_5) := (blk_cell BK235.out 5).trans rfl
       have hcz22_6 : wc.cell? ⟨gb235, 6, none⟩ = some (.string a0_6) := (blk_cell BK235.out 6).trans rfl
       have hcz22_7 : wc.cell? ⟨gb235, 7, none⟩ = some (.slice A0_7 l0_7.length c0_7) := (blk_cell BK235.out 7).trans rfl
       have hfz22_0 := blk_frozen BK235.out 0
       have hfz22_1 := blk_frozen BK235.out 1
       have hfz22_2 := blk_frozen BK235.out 2
       have hfz22_3 := blk_frozen BK235.out 3
       have hfz22_4 := blk_frozen BK235.out 4
       have hfz22_5 := blk_frozen BK235.out 5
       have hfz22_6 := blk_frozen BK235.out 6
       have hfz22_7 := blk_frozen BK235.out 7
       go_wp2_with (first | ((with_reducible refine gate_callee (f := 116) rfl ?_); refine goesL_ (some 26) rfl rfl Try.func116 (by kernel_rfl) rfl #[.agg #[.int .i64 a0_0, .int .i64 a0_1, .int .i64 a0_2, .int .i64 a0_3, .int .i64 a0_4, .int .i64 a0_5, .string a0_6, .slice A0_7 l0_7.length c0_7]] rfl lz ?_; (with_reducible refine (spec_Reads.calls kj12 a0_0 a0_1 a0_2 a0_3 a0_4 a0_5 a0_6 _ _ l0_7 t243 _ ?side1 ?side2 A21.out).mono ?_); (case side1 => exact cz HR0_7.out); (case side2 => exact HC0_7.out); rintro e w23 ⟨v244, rfl, ho0, hb⟩; refine ⟨_, rfl, ?_⟩; have n0_ := Aside0.mk (Kd.R_below (rz HO_5.out) hb); have n1_ := Aside0.mk (Kd.R_lower ho0 (below_size bz)); have n2_ := Aside0.mk (blk_below (g := gb235) (o := .cells #[.int .i64 a0_0, .int .i64 a0_1, .int .i64 a0_2, .int .i64 a0_3, .int .i64 a0_4, .int .i64 a0_5, .string a0_6, .slice A0_7 l0_7.length c0_7] 87 (0, 0)) kz hb); have n3_ := Aside0.mk (below_step bz hb); clear HO_5; clear BK235; clear HB; have HO_5 := n0_; have HO245 := n1_; have BK235 := n2_; have HB := n3_; clear n0_ n1_ n2_ n3_; (try clear hb); (try clear hb2); (try clear hk); (try clear hi); (try clear ho0)))
       go_loopg [7] kj12 (fun kq v7 w' => ∃ (x5_3 : List Bool) (x7_3 : Int), v7 = .int .i64 x7_3 ∧ Aside0 (spec_l18Ahead.l0 kq x5_3 t243 x7_3 = some r) ∧ Aside0 (kq ≤ kj12) ∧ Aside0 (Kd.R Kd.bool 4 w' w.heap.size (fun _ => True) v240 x5_3) ∧ Aside0 (Kd.R (Kd.int .i64) 2 w' w.heap.size (fun _ => True) v244 t243) ∧ Aside0 (w'.heap[gb235]? = some (.cells #[.int .i64 a0_0, .int .i64 a0_1, .int .i64 a0_2, .int .i64 a0_3, .int .i64 a0_4, .int .i64 a0_5, .string a0_6, (.slice A0_7 l0_7.length c0_7)] 87 (0, 0))) ∧ Aside0 (Below w.heap.size w w'))
       case atStart => exact ⟨(x5_12), (0), sz_, H', ⟨Nat.le_refl _⟩, ⟨by (with_reducible repeat (first | apply Kd.R_alloc | apply Kd.R_drewN | apply Kd.R_drew)); exact HO_5.out⟩, ⟨by (with_reducible repeat (first | apply Kd.R_alloc | apply Kd.R_drewN | apply Kd.R_drew)); exact HO245.out⟩, ⟨ kz⟩, ⟨ bz⟩⟩
       case round =>
        clear H'
        try clear c1
        try clear p1
        try clear q1
        try clear hx1
        try clear p2
        try clear c3
        try clear c9
        try clear c9b0
        try clear c11
        try clear c14
        try clear c15
        try clear c15b0
        try clear c16
        try clear c16b0
        try clear p17
        try clear q17
        try clear hx17
        try clear hf17
        try clear hcz10_0
        try clear hcz10_1
        try clear hcz10_2
        try clear hcz10_3
        try clear hcz10_4
        try clear hcz10_5
        try clear hcz10_6
        try clear hcz10_7
        try clear hcz12_0
        try clear hcz12_1
        try clear hcz12_2
        try clear hcz12_3
        try clear hcz12_4
        try clear hcz12_5
        try clear hcz12_6
        try clear hcz12_7
        try clear hcz18_0
        try clear hcz18_1
        try clear hcz18_2
        try clear hcz18_3
        try clear hcz18_4
        try clear hcz18_5
        try clear hcz18_6
        try clear hcz18_7
        try clear hcz22_0
        try clear hcz22_1
        try clear hcz22_2
        try clear hcz22_3
        try clear hcz22_4
        try clear hcz22_5
        try clear hcz22_6
        try clear hcz22_7
        try clear hfz10_0
        try clear hfz10_1
        try clear hfz10_2
        try clear hfz10_3
        try clear hfz10_4
        try clear hfz10_5
        try clear hfz10_6
        try clear hfz10_7
        try clear hfz12_0
        try clear hfz12_1
        try clear hfz12_2
        try clear hfz12_3
        try clear hfz12_4
        try clear hfz12_5
        try clear hfz12_6
        try clear hfz12_7
        try clear hfz18_0
        try clear hfz18_1
        try clear hfz18_2
        try clear hfz18_3
        try clear hfz18_4
        try clear hfz18_5
        try clear hfz18_6
        try clear hfz18_7
        try clear hfz22_0
        try clear hfz22_1
        try clear hfz22_2
        try clear hfz22_3
        try clear hfz22_4
        try clear hfz22_5
        try clear hfz22_6
        try clear hfz22_7
        try clear hx17_0
        try clear p1
        try clear p17
        try clear p2
        try clear q1
        try clear q17
        obtain ⟨x5_3, x7_3, rfl, HA, HK3, HO_5, HO_6, BK235, HB⟩ := hrel
        cases gk with
        | zero => exact absurd HA.out (by simp [spec_l18Ahead.l0])
        | succ k3 =>
         have H := HA.out
         clear HA
         simp only [spec_l18Ahead.l0] at H
         by_cases c24 : x7_3 < (t243.length : Int)
         · rw [if_pos c24] at H
           have c24b0 : decide (x7_3 < (t243.length : Int)) = true := decide_eq_true c24
           clear c24
           by_cases c25 : 0 ≤ x7_3
           · rw [if_pos c25] at H
             have c25b0 : decide (0 ≤ x7_3) = true := decide_eq_true c25
             clear c25
             by_cases c26 : (rd t243 x7_3) < (x5_3.length : Int)
             · rw [if_pos c26] at H
               have c26b0 : decide ((rd t243 x7_3) < (x5_3.length : Int)) = true := decide_eq_true c26
               clear c26
               by_cases c27 : 0 ≤ (rd t243 x7_3)
               · rw [if_pos c27] at H
                 have c27b0 : decide (0 ≤ (rd t243 x7_3)) = true := decide_eq_true c27
                 clear c27
                 obtain ⟨y248, hy248⟩ : ∃ y_ : List Bool, y_ = (x5_3.set ((rd t243 x7_3) : Int).toNat true) := ⟨_, rfl⟩
                 replace H : (spec_l18Ahead.l0 k3 y248 t243 (wrap64 (x7_3 + 1))) = some r := by first | (rw [hy248]; with_reducible exact H) | (have H2_ := (Option.bind_some _ _).symm.trans H; rw [hy248]; with_reducible exact H2_) | (have H2_ := (Option.bind_some _ _).symm.trans H; with_reducible exact H2_) | with_reducible exact H | (rw [hy248]; exact H) | exact H
                 have Ny248 := Aside0.mk hy248
                 clear hy248
                 have H' := Aside0.mk H
                 clear H
                 obtain ⟨Ao29, co29, eo29⟩ := Kd.R_slice HO_6.out
                 subst eo29
                 have p246 : 0 ≤ (x7_3 : Int) := of_decide_eq_true az
                 have q246 : x7_3 < (t243.length : Int) := of_decide_eq_true az
                 obtain ⟨ad246, e246, hx246_0⟩ := Kd.at_int (Kd.R_reads' HO_6.out).2.2 x7_3 p246 q246
                 cases e246
                 replace p246 := eq_true p246
                 replace q246 := eq_true q246
                 obtain ⟨Ao30, co30, eo30⟩ := Kd.R_slice HO_5.out
                 subst eo30
                 have p247 : 0 ≤ (x7_3 : Int) := of_decide_eq_true az
                 have q247 : x7_3 < (t243.length : Int) := of_decide_eq_true az
                 obtain ⟨ad247, e247, hx247_0⟩ := Kd.at_int (Kd.R_reads' HO_6.out).2.2 x7_3 p247 q247
                 obtain rfl : ad246 = ad247 := (by injection e247)
                 replace p247 := eq_true p247
                 replace q247 := eq_true q247
                 have p28 : 0 ≤ ((rd t243 x7_3) : Int) := of_decide_eq_true az
                 have q28 : ((rd t243 x7_3) : Int) < ((x5_3.length : Int) : Int) := of_decide_eq_true az
                 obtain ⟨go28, co28, eo28, gb28, gl28, cl28, HG28⟩ := Kd.R_form HO_5.out (by omega)
                 (first | cases eo28 | (injection eo28 with ea_ en_ ec_; (first | subst ea_ | (injection ea_ with ea_; subst ea_)); subst ec_; clear en_))
                 have GB28 := Aside0.mk gb28
                 have GG28 := Aside0.mk HG28
                 clear gb28 gl28 HG28
                 obtain ⟨hx28_0, hf28_0⟩ := Kd.R_celln false HO_5.out ((rd t243 x7_3) : Int) p28 q28
                 replace p28 := eq_true p28
                 replace q28 := eq_true q28
                 have HP31 := Kd.R_putg HO_5.out ((rd t243 x7_3) : Int) true
                 go_wp2_with (first | ((with_reducible refine gate_store (t := 4) (p := 45) rfl ?_); refine store_event (t := 4) (p := 45) (v := ?vo_w32) (w1 := (wr.setCell ⟨go28, ((rd t243 x7_3) : Int).toNat, none⟩ (.bool true))) ?hg ?ho ?hn ?hr ?_; (case ho => rfl); (case hg => rfl); (case hn => rfl); (case hr => first | (go_simp; done) | (go_simp; rfl)); intro w32 hw; have hg : wr.grownBy w32 (some go28) := (by rw [hw]; exact HP31.2); have hp_ : Kd.R Kd.bool 4 w32 w.heap.size (fun _ => True) (.slice (some ⟨go28, 0, none⟩) x5_3.length co30) y248 := (by rw [hw, Ny248.out]; exact HP31.1); clear HP31; have n0_ := Aside0.mk (hp_); have n1_ := Aside0.mk (Kd.R_over' (v := (.slice (some ⟨go28, 0, none⟩) x5_3.length co30)) (rz HO_6.out) (Kd.R_typed HO_5.out) (by decide) hg); have n2_ := Aside0.mk (blk_grown (g := gb235) (o := .cells #[.int .i64 a0_0, .int .i64 a0_1, .int .i64 a0_2, .int .i64 a0_3, .int .i64 a0_4, .int .i64 a0_5, .string a0_6, .slice A0_7 l0_7.length c0_7] 87 (0, 0)) kz hg (Kd.R_ne HO_5.out BK235.out (by decide))); have n3_ := Aside0.mk ((by rw [hw]; exact below_set (HB.out) GB28.out : Below w.heap.size w w32)); clear HO_5; clear HO_6; clear BK235; clear HB; have HO_5 := n0_; have HO_6 := n1_; have BK235 := n2_; have HB := n3_; clear n0_ n1_ n2_ n3_; clear hg hw hp_))
                 go_roundg k3
                 case measure => have := HJ3.out; have := HJ12.out; have := HK3.out; omega
                 case rel => exact ⟨(y248), (wrap64 (x7_3 + 1)), sz_, H', ⟨by have := HJ3.out; have := HJ12.out; have := HK3.out; omega⟩, ⟨by (with_reducible repeat (first | apply Kd.R_alloc | apply Kd.R_drewN | apply Kd.R_drew)); exact HO_5.out⟩, ⟨by (with_reducible repeat (first | apply Kd.R_alloc | apply Kd.R_drewN | apply Kd.R_drew)); exact HO_6.out⟩, ⟨ kz⟩, ⟨ bz⟩⟩
               · rw [if_neg c27] at H
                 exact absurd H (by simp)
             · rw [if_neg c26] at H
               have c26b0 : decide ((rd t243 x7_3) < (x5_3.length : Int)) = false := decide_eq_false c26
               clear c26
               have H' := Aside0.mk H
               clear H
               obtain ⟨Ao33, co33, eo33⟩ := Kd.R_slice HO_6.out
               subst eo33
               have p246 : 0 ≤ (x7_3 : Int) := of_decide_eq_true az
               have q246 : x7_3 < (t243.length : Int) := of_decide_eq_true az
               obtain ⟨ad246, e246, hx246_0⟩ := Kd.at_int (Kd.R_reads' HO_6.out).2.2 x7_3 p246 q246
               cases e246
               replace p246 := eq_true p246
               replace q246 := eq_true q246
               obtain ⟨Ao34, co34, eo34⟩ := Kd.R_slice HO_5.out
               subst eo34
               go_wp2
               go_roundg k3
               case measure => have := HJ3.out; have := HJ12.out; have := HK3.out; omega
               case rel => exact ⟨(x5_3), (wrap64 (x7_3 + 1)), sz_, H', ⟨by have := HJ3.out; have := HJ12.out; have := HK3.out; omega⟩, ⟨by (with_reducible repeat (first | apply Kd.R_alloc | apply Kd.R_drewN | apply Kd.R_drew)); exact HO_5.out⟩, ⟨by (with_reducible repeat (first | apply Kd.R_alloc | apply Kd.R_drewN | apply Kd.R_drew)); exact HO_6.out⟩, ⟨ kz⟩, ⟨ bz⟩⟩
           · rw [if_neg c25] at H
             exact absurd H (by simp)
         · rw [if_neg c24] at H
           have c24b0 : decide (x7_3 < (t243.length : Int)) = false := decide_eq_false c24
           clear c24
           obtain rfl := Option.some.inj H
           obtain ⟨Ao35, co35, eo35⟩ := Kd.R_slice HO_6.out
           subst eo35
           go_wp2
           go_ret
           exact ⟨_, by first | rfl | (simp [errW_none, errW_some] <;> rfl) | (simp [*, errW_none, errW_some] <;> rfl), by (with_reducible repeat (first | apply Kd.R_alloc | apply Kd.R_drewN | apply Kd.R_drew)); exact HO_5.out, bz⟩
 · rw [if_neg c3] at H
   exact absurd H (by simp)

set_option linter.unusedVariables false
set_option linter.unusedSimpArgs false

def spec_l18Goes.f (a0_0 : Int) (a0_1 : Int) (a0_2 : Int) (a0_3 : Int) (a0_4 : Int) (a0_5 : Int) (a0_6 : ByteArray) (l0_7 : List Int) : Option (Bool) := if a0_0 = 23 then (some false) else (if a0_0 = 62 then (some false) else (some (a0_0 != 29)))
set_option maxHeartbeats 8000000 in
set_option maxRecDepth 100000 in
theorem spec_l18Goes.calls (a0_0 : Int) (a0_1 : Int) (a0_2 : Int) (a0_3 : Int) (a0_4 : Int) (a0_5 : Int) (a0_6 : ByteArray) (A0_7 : Option Addr) (c0_7 : Nat) (l0_7 : List Int) (r : Bool) (w : World) (hr0_7 : Kd.C (Kd.int .i64) w A0_7 l0_7.length l0_7) (hc0_7 : l0_7.length ≤ c0_7) (h : spec_l18Goes.f a0_0 a0_1 a0_2 a0_3 a0_4 a0_5 a0_6 l0_7 = some r) :
 Calls Try.prog 127 #[.agg #[.int .i64 a0_0, .int .i64 a0_1, .int .i64 a0_2, .int .i64 a0_3, .int .i64 a0_4, .int .i64 a0_5, .string a0_6, .slice A0_7 l0_7.length c0_7]] w fun e w' => e = .returned (.bool r) ∧ Below w.heap.size w w' := by
 have hu87 := Try.underlying87
 have HR0_7 := Aside0.mk hr0_7
 have HC0_7 := Aside0.mk hc0_7
 clear hr0_7 hc0_7
 have HB := Aside0.mk (Below.refl w.heap.size w)
 have H : (if a0_0 = 23 then (some false) else (if a0_0 = 62 then (some false) else (some (a0_0 != 29)))) = some r := h
 clear h
 by_cases c2 : a0_0 = 23
 · rw [if_pos c2] at H
   have c2b0 : (a0_0 == 23) = true := beq_iff_eq.mpr c2
   have c2b1 : (a0_0 != 23) = false := bne_eq_false_iff_eq.mpr c2
   clear c2
   obtain rfl := Option.some.inj H
   go_enter Try.func127, Try.ntmps127
   go_wp2_with (first | ((with_reducible refine gate_dst (N := 1) rfl ?_); refine box_event ?hg (N := 1) ?hd (cs := #[.int .i64 a0_0, .int .i64 a0_1, .int .i64 a0_2, .int .i64 a0_3, .int .i64 a0_4, .int .i64 a0_5, .string a0_6, .slice A0_7 l0_7.length c0_7]) (t := 87) ?hr ?_; (case hd => rfl); (case hg => rfl); (case hr => first | (go_simp; done) | (go_simp; rfl)); intro gb195 hg w3 hbox hb; have n0_ := Aside0.mk (below_step bz hb); have n1_ := Aside0.mk (hbox); have n2_ := Aside0.mk ((by rw [hg]; exact (below_size bz) : w.heap.size ≤ gb195)); have n3_ := Aside0.mk ((by rw [hg]; exact (below_size bz) : w.heap.size ≤ gb195)); clear HB; have HB := n0_; have BK195 := n1_; have GW195 := n2_; have GE195 := n3_; clear n0_ n1_ n2_ n3_; clear hb hbox hg; have hcz4_0 : w3.cell? ⟨gb195, 0, none⟩ = some (.int .i64 a0_0) := (blk_cell BK195.out 0).trans rfl; have hcz4_1 : w3.cell? ⟨gb195, 1, none⟩ = some (.int .i64 a0_1) := (blk_cell BK195.out 1).trans rfl; have hcz4_2 : w3.cell? ⟨gb195, 2, none⟩ = some (.int .i64 a0_2) := (blk_cell BK195.out 2).trans rfl; have hcz4_3 : w3.cell? ⟨gb195, 3, none⟩ = some (.int .i64 a0_3) := (blk_cell BK195.out 3).trans rfl; have hcz4_4 : w3.cell? ⟨gb195, 4, none⟩ = some (.int .i64 a0_4) := (blk_cell BK195.out 4).trans rfl; have hcz4_5 : w3.cell? ⟨gb195, 5, none⟩ = some (.int .i64 a0_5) := (blk_cell BK195.out 5).trans rfl; have hcz4_6 : w3.cell? ⟨gb195, 6, none⟩ = some (.string a0_6) := (blk_cell BK195.out 6).trans rfl; have hcz4_7 : w3.cell? ⟨gb195, 7, none⟩ = some (.slice A0_7 l0_7.length c0_7) := (blk_cell BK195.out 7).trans rfl; have hfz4_0 := blk_frozen BK195.out 0; have hfz4_1 := blk_frozen BK195.out 1; have hfz4_2 := blk_frozen BK195.out 2; have hfz4_3 := blk_frozen BK195.out 3; have hfz4_4 := blk_frozen BK195.out 4; have hfz4_5 := blk_frozen BK195.out 5; have hfz4_6 := blk_frozen BK195.out 6; have hfz4_7 := blk_frozen BK195.out 7))
   go_ret
   exact ⟨by first | rfl | (simp [errW_none, errW_some] <;> rfl) | (simp [*, errW_none, errW_some] <;> rfl), bz⟩
 · rw [if_neg c2] at H
   have c2b0 : (a0_0 == 23) = false := beq_eq_false_iff_ne.mpr c2
   have c2b1 : (a0_0 != 23) = true := bne_iff_ne.mpr c2
   by_cases c5 : a0_0 = 62
   · rw [if_pos c5] at H
     have c5b0 : (a0_0 == 62) = true := beq_iff_eq.mpr c5
     have c5b1 : (a0_0 != 62) = false := bne_eq_false_iff_eq.mpr c5
     clear c5
     obtain rfl := Option.some.inj H
     go_enter Try.func127, Try.ntmps127
     go_wp2_with (first | ((with_reducible refine gate_dst (N := 1) rfl ?_); refine box_event ?hg (N := 1) ?hd (cs := #[.int .i64 a0_0, .int .i64 a0_1, .int .i64 a0_2, .int .i64 a0_3, .int .i64 a0_4, .int .i64 a0_5, .string a0_6, .slice A0_7 l0_7.length c0_7]) (t := 87) ?hr ?_; (case hd => rfl); (case hg => rfl); (case hr => first | (go_simp; done) | (go_simp; rfl)); intro gb195 hg w6 hbox hb; have n0_ := Aside0.mk (below_step bz hb); have n1_ := Aside0.mk (hbox); have n2_ := Aside0.mk ((by rw [hg]; exact (below_size bz) : w.heap.size ≤ gb195)); have n3_ := Aside0.mk ((by rw [hg]; exact (below_size bz) : w.heap.size ≤ gb195)); clear HB; have HB := n0_; have BK195 := n1_; have GW195 := n2_; have GE195 := n3_; clear n0_ n1_ n2_ n3_; clear hb hbox hg; have hcz7_0 : w6.cell? ⟨gb195, 0, none⟩ = some (.int .i64 a0_0) := (blk_cell BK195.out 0).trans rfl; have hcz7_1 : w6.cell? ⟨gb195, 1, none⟩ = some (.int .i64 a0_1) := (blk_cell BK195.out 1).trans rfl; have hcz7_2 : w6.cell? ⟨gb195, 2, none⟩ = some (.int .i64 a0_2) := (blk_cell BK195.out 2).trans rfl; have hcz7_3 : w6.cell? ⟨gb195, 3, none⟩ = some (.int .i64 a0_3) := (blk_cell BK195.out 3).trans rfl; have hcz7_4 : w6.cell? ⟨gb195, 4, none⟩ = some (.int .i64 a0_4) := (blk_cell BK195.out 4).trans rfl; have hcz7_5 : w6.cell? ⟨gb195, 5, none⟩ = some (.int .i64 a0_5) := (blk_cell BK195.out 5).trans rfl; have hcz7_6 : w6.cell? ⟨gb195, 6, none⟩ = some (.string a0_6) := (blk_cell BK195.out 6).trans rfl; have hcz7_7 : w6.cell? ⟨gb195, 7, none⟩ = some (.slice A0_7 l0_7.length c0_7) := (blk_cell BK195.out 7).trans rfl; have hfz7_0 := blk_frozen BK195.out 0; have hfz7_1 := blk_frozen BK195.out 1; have hfz7_2 := blk_frozen BK195.out 2; have hfz7_3 := blk_frozen BK195.out 3; have hfz7_4 := blk_frozen BK195.out 4; have hfz7_5 := blk_frozen BK195.out 5; have hfz7_6 := blk_frozen BK195.out 6; have hfz7_7 := blk_frozen BK195.out 7))
     go_ret
     exact ⟨by first | rfl | (simp [errW_none, errW_some] <;> rfl) | (simp [*, errW_none, errW_some] <;> rfl), bz⟩
   · rw [if_neg c5] at H
     have c5b0 : (a0_0 == 62) = false := beq_eq_false_iff_ne.mpr c5
     have c5b1 : (a0_0 != 62) = true := bne_iff_ne.mpr c5
     obtain rfl := Option.some.inj H
     go_enter Try.func127, Try.ntmps127
     go_wp2_with (first | ((with_reducible refine gate_dst (N := 1) rfl ?_); refine box_event ?hg (N := 1) ?hd (cs := #[.int .i64 a0_0, .int .i64 a0_1, .int .i64 a0_2, .int .i64 a0_3, .int .i64 a0_4, .int .i64 a0_5, .string a0_6, .slice A0_7 l0_7.length c0_7]) (t := 87) ?hr ?_; (case hd => rfl); (case hg => rfl); (case hr => first | (go_simp; done) | (go_simp; rfl)); intro gb195 hg w8 hbox hb; have n0_ := Aside0.mk (below_step bz hb); have n1_ := Aside0.mk (hbox); have n2_ := Aside0.mk ((by rw [hg]; exact (below_size bz) : w.heap.size ≤ gb195)); have n3_ := Aside0.mk ((by rw [hg]; exact (below_size bz) : w.heap.size ≤ gb195)); clear HB; have HB := n0_; have BK195 := n1_; have GW195 := n2_; have GE195 := n3_; clear n0_ n1_ n2_ n3_; clear hb hbox hg; have hcz9_0 : w8.cell? ⟨gb195, 0, none⟩ = some (.int .i64 a0_0) := (blk_cell BK195.out 0).trans rfl; have hcz9_1 : w8.cell? ⟨gb195, 1, none⟩ = some (.int .i64 a0_1) := (blk_cell BK195.out 1).trans rfl; have hcz9_2 : w8.cell? ⟨gb195, 2, none⟩ = some (.int .i64 a0_2) := (blk_cell BK195.out 2).trans rfl; have hcz9_3 : w8.cell? ⟨gb195, 3, none⟩ = some (.int .i64 a0_3) := (blk_cell BK195.out 3).trans rfl; have hcz9_4 : w8.cell? ⟨gb195, 4, none⟩ = some (.int .i64 a0_4) := (blk_cell BK195.out 4).trans rfl; have hcz9_5 : w8.cell? ⟨gb195, 5, none⟩ = some (.int .i64 a0_5) := (blk_cell BK195.out 5).trans rfl; have hcz9_6 : w8.cell? ⟨gb195, 6, none⟩ = some (.string a0_6) := (blk_cell BK195.out 6).trans rfl; have hcz9_7 : w8.cell? ⟨gb195, 7, none⟩ = some (.slice A0_7 l0_7.length c0_7) := (blk_cell BK195.out 7).trans rfl; have hfz9_0 := blk_frozen BK195.out 0; have hfz9_1 := blk_frozen BK195.out 1; have hfz9_2 := blk_frozen BK195.out 2; have hfz9_3 := blk_frozen BK195.out 3; have hfz9_4 := blk_frozen BK195.out 4; have hfz9_5 := blk_frozen BK195.out 5; have hfz9_6 := blk_frozen BK195.out 6; have hfz9_7 := blk_frozen BK195.out 7))
     go_ret
     exact ⟨by first | rfl | (simp [errW_none, errW_some] <;> rfl) | (simp [*, errW_none, errW_some] <;> rfl), bz⟩

set_option linter.unusedVariables false
set_option linter.unusedSimpArgs false

def spec_l18Jumps.f (a0_0 : Int) (l0_1 : List Int) (l0_2 : List (S85)) (a1_0 : Int) (a1_1 : Int) (a1_2 : Int) (a1_3 : Int) (a1_4 : Int) (a1_5 : Int) (a1_6 : ByteArray) (l1_7 : List Int) : Option (Int) := if a1_0 = 23 then (if a1_5 < 0 then (some (-1)) else (if a1_5 ≥ (l0_2.length : Int) then (some (-1)) else (some a1_5))) else (if a1_0 = 24 then (if a1_5 < 0 then (some (-1)) else (if a1_5 ≥ (l0_2.length : Int) then (some (-1)) else (some a1_5))) else (if a1_0 = 25 then (if a1_5 < 0 then (some (-1)) else (if a1_5 ≥ (l0_2.length : Int) then (some (-1)) else (some a1_5))) else (some (-1))))
set_option maxHeartbeats 8000000 in
set_option maxRecDepth 100000 in
theorem spec_l18Jumps.calls (a0_0 : Int) (A0_1 : Option Addr) (c0_1 : Nat) (l0_1 : List Int) (A0_2 : Option Addr) (c0_2 : Nat) (l0_2 : List (S85)) (a1_0 : Int) (a1_1 : Int) (a1_2 : Int) (a1_3 : Int) (a1_4 : Int) (a1_5 : Int) (a1_6 : ByteArray) (A1_7 : Option Addr) (c1_7 : Nat) (l1_7 : List Int) (r : Int) (w : World) (hr0_1 : Kd.C (Kd.int .i64) w A0_1 l0_1.length l0_1) (hc0_1 : l0_1.length ≤ c0_1) (hr0_2 : Kd.C k85 w A0_2 l0_2.length l0_2) (hc0_2 : l0_2.length ≤ c0_2) (hr1_7 : Kd.C (Kd.int .i64) w A1_7 l1_7.length l1_7) (hc1_7 : l1_7.length ≤ c1_7) (h : spec_l18Jumps.f a0_0 l0_1 l0_2 a1_0 a1_1 a1_2 a1_3 a1_4 a1_5 a1_6 l1_7 = some r) :
 Calls Try.prog 128 #[.agg #[.int .i64 a0_0, .slice A0_1 l0_1.length c0_1, .slice A0_2 l0_2.length c0_2], .agg #[.int .i64 a1_0, .int .i64 a1_1, .int .i64 a1_2, .int .i64 a1_3, .int .i64 a1_4, .int .i64 a1_5, .string a1_6, .slice A1_7 l1_7.length c1_7]] w fun e w' => e = .returned (.int .i64 r) ∧ Below w.heap.size w w' := by
 have hu29 := Try.underlying29
 have hu87 := Try.underlying87
 have HR0_1 := Aside0.mk hr0_1
 have HC0_1 := Aside0.mk hc0_1
 clear hr0_1 hc0_1
 have HR0_2 := Aside0.mk hr0_2
 have HC0_2 := Aside0.mk hc0_2
 clear hr0_2 hc0_2
 have HR1_7 := Aside0.mk hr1_7
 have HC1_7 := Aside0.mk hc1_7
 clear hr1_7 hc1_7
 have HB := Aside0.mk (Below.refl w.heap.size w)
 have H : (if a1_0 = 23 then (if a1_5 < 0 then (some (-1)) else (if a1_5 ≥ (l0_2.length : Int) then (some (-1)) else (some a1_5))) else (if a1_0 = 24 then (if a1_5 < 0 then (some (-1)) else (if a1_5 ≥ (l0_2.length : Int) then (some (-1)) else (some a1_5))) else (if a1_0 = 25 then (if a1_5 < 0 then (some (-1)) else (if a1_5 ≥ (l0_2.length : Int) then (some (-1)) else (some a1_5))) else (some (-1))))) = some r := h
 clear h
 by_cases c3 : a1_0 = 23
 · rw [if_pos c3] at H
   have c3b0 : (a1_0 == 23) = true := beq_iff_eq.mpr c3
   have c3b1 : (a1_0 != 23) = false := bne_eq_false_iff_eq.mpr c3
   clear c3
   by_cases c4 : a1_5 < 0
   · rw [if_pos c4] at H
     have c4b0 : decide (a1_5 < 0) = true := decide_eq_true c4
     clear c4
     obtain rfl := Option.some.inj H
     go_enter Try.func128, Try.ntmps128
     go_wp2_with (first | ((with_reducible refine gate_dst (N := 2) rfl ?_); (try (refine gate_guard (by rfl) ?_; dsimp only)); refine box_event ?hg (N := 2) ?hd (cs := #[.int .i64 a0_0, .slice A0_1 l0_1.length c0_1, .slice A0_2 l0_2.length c0_2]) (t := 29) ?hr ?_; (case hd => rfl); (case hg => rfl); (case hr => first | (go_simp; done) | (go_simp; rfl)); intro gb196 hg w5 hbox hb; have n0_ := Aside0.mk (below_step bz hb); have n1_ := Aside0.mk (hbox); have n2_ := Aside0.mk ((by rw [hg]; exact (below_size bz) : w.heap.size ≤ gb196)); have n3_ := Aside0.mk ((by rw [hg]; exact (below_size bz) : w.heap.size ≤ gb196)); clear HB; have HB := n0_; have BK196 := n1_; have GW196 := n2_; have GE196 := n3_; clear n0_ n1_ n2_ n3_; clear hb hbox hg) | ((with_reducible refine gate_dst (N := 3) rfl ?_); (try (refine gate_guard (by rfl) ?_; dsimp only)); refine box_event ?hg (N := 3) ?hd (cs := #[.int .i64 a1_0, .int .i64 a1_1, .int .i64 a1_2, .int .i64 a1_3, .int .i64 a1_4, .int .i64 a1_5, .string a1_6, .slice A1_7 l1_7.length c1_7]) (t := 87) ?hr ?_; (case hd => rfl); (case hg => rfl); (case hr => first | (go_simp; done) | (go_simp; rfl)); intro gb197 hg w6 hbox hb; have n0_ := Aside0.mk (blk_below (g := gb196) (o := .cells #[.int .i64 a0_0, .slice A0_1 l0_1.length c0_1, .slice A0_2 l0_2.length c0_2] 29 (0, 0)) kz hb); have n1_ := Aside0.mk (below_step bz hb); have n2_ := Aside0.mk (hbox); have n3_ := Aside0.mk ((by rw [hg]; exact (below_size bz) : w.heap.size ≤ gb197)); have n4_ := Aside0.mk ((by rw [hg]; exact (below_size bz) : w.heap.size ≤ gb197)); have n5_ := Aside0.mk ((by rw [hg]; exact Nat.ne_of_lt (blk_lt (g := gb196) (o := .cells #[.int .i64 a0_0, .slice A0_1 l0_1.length c0_1, .slice A0_2 l0_2.length c0_2] 29 (0, 0)) kz) : gb196 ≠ gb197)); have n6_ := Aside0.mk ((by rw [hg]; exact Nat.ne_of_gt (blk_lt (g := gb196) (o := .cells #[.int .i64 a0_0, .slice A0_1 l0_1.length c0_1, .slice A0_2 l0_2.length c0_2] 29 (0, 0)) kz) : gb197 ≠ gb196)); clear BK196; clear HB; have BK196 := n0_; have HB := n1_; have BK197 := n2_; have GW197 := n3_; have GE197 := n4_; have NB196_197 := n5_; have NB197_196 := n6_; clear n0_ n1_ n2_ n3_ n4_ n5_ n6_; clear hb hbox hg; have hnb7 := NB197_196.out; have hnc7 := NB196_197.out; have hcz8_0 : w6.cell? ⟨gb197, 0, none⟩ = some (.int .i64 a1_0) := (blk_cell BK197.out 0).trans rfl; have hcz8_1 : w6.cell? ⟨gb197, 1, none⟩ = some (.int .i64 a1_1) := (blk_cell BK197.out 1).trans rfl; have hcz8_2 : w6.cell? ⟨gb197, 2, none⟩ = some (.int .i64 a1_2) := (blk_cell BK197.out 2).trans rfl; have hcz8_3 : w6.cell? ⟨gb197, 3, none⟩ = some (.int .i64 a1_3) := (blk_cell BK197.out 3).trans rfl; have hcz8_4 : w6.cell? ⟨gb197, 4, none⟩ = some (.int .i64 a1_4) := (blk_cell BK197.out 4).trans rfl; have hcz8_5 : w6.cell? ⟨gb197, 5, none⟩ = some (.int .i64 a1_5) := (blk_cell BK197.out 5).trans rfl; have hcz8_6 : w6.cell? ⟨gb197, 6, none⟩ = some (.string a1_6) := (blk_cell BK197.out 6).trans rfl; have hcz8_7 : w6.cell? ⟨gb197, 7, none⟩ = some (.slice A1_7 l1_7.length c1_7) := (blk_cell BK197.out 7).trans rfl; have hfz8_0 := blk_frozen BK197.out 0; have hfz8_1 := blk_frozen BK197.out 1; have hfz8_2 := blk_frozen BK197.out 2; have hfz8_3 := blk_frozen BK197.out 3; have hfz8_4 := blk_frozen BK197.out 4; have hfz8_5 := blk_frozen BK197.out 5; have hfz8_6 := blk_frozen BK197.out 6; have hfz8_7 := blk_frozen BK197.out 7))
     go_ret
     exact ⟨by first | rfl | (simp [errW_none, errW_some] <;> rfl) | (simp [*, errW_none, errW_some] <;> rfl), bz⟩
   · rw [if_neg c4] at H
     have c4b0 : decide (a1_5 < 0) = false := decide_eq_false c4
     clear c4
     by_cases c9 : a1_5 ≥ (l0_2.length : Int)
     · rw [if_pos c9] at H
       have c9b0 : decide ((l0_2.length : Int) ≤ a1_5) = true := decide_eq_true c9
       clear c9
       obtain rfl := Option.some.inj H
       go_enter Try.func128, Try.ntmps128
       go_wp2_with (first | ((with_reducible refine gate_dst (N := 2) rfl ?_); (try (refine gate_guard (by rfl) ?_; dsimp only)); refine box_event ?hg (N := 2) ?hd (cs := #[.int .i64 a0_0, .slice A0_1 l0_1.length c0_1, .slice A0_2 l0_2.length c0_2]) (t := 29) ?hr ?_; (case hd => rfl); (case hg => rfl); (case hr => first | (go_simp; done) | (go_simp; rfl)); intro gb196 hg w10 hbox hb; have n0_ := Aside0.mk (below_step bz hb); have n1_ := Aside0.mk (hbox); have n2_ := Aside0.mk ((by rw [hg]; exact (below_size bz) : w.heap.size ≤ gb196)); have n3_ := Aside0.mk ((by rw [hg]; exact (below_size bz) : w.heap.size ≤ gb196)); clear HB; have HB := n0_; have BK196 := n1_; have GW196 := n2_; have GE196 := n3_; clear n0_ n1_ n2_ n3_; clear hb hbox hg) | ((with_reducible refine gate_dst (N := 3) rfl ?_); (try (refine gate_guard (by rfl) ?_; dsimp only)); refine box_event ?hg (N := 3) ?hd (cs := #[.int .i64 a1_0, .int .i64 a1_1, .int .i64 a1_2, .int .i64 a1_3, .int .i64 a1_4, .int .i64 a1_5, .string a1_6, .slice A1_7 l1_7.length c1_7]) (t := 87) ?hr ?_; (case hd => rfl); (case hg => rfl); (case hr => first | (go_simp; done) | (go_simp; rfl)); intro gb197 hg w11 hbox hb; have n0_ := Aside0.mk (blk_below (g := gb196) (o := .cells #[.int .i64 a0_0, .slice A0_1 l0_1.length c0_1, .slice A0_2 l0_2.length c0_2] 29 (0, 0)) kz hb); have n1_ := Aside0.mk (below_step bz hb); have n2_ := Aside0.mk (hbox); have n3_ := Aside0.mk ((by rw [hg]; exact (below_size bz) : w.heap.size ≤ gb197)); have n4_ := Aside0.mk ((by rw [hg]; exact (below_size bz) : w.heap.size ≤ gb197)); have n5_ := Aside0.mk ((by rw [hg]; exact Nat.ne_of_lt (blk_lt (g := gb196) (o := .cells #[.int .i64 a0_0, .slice A0_1 l0_1.length c0_1, .slice A0_2 l0_2.length c0_2] 29 (0, 0)) kz) : gb196 ≠ gb197)); have n6_ := Aside0.mk ((by rw [hg]; exact Nat.ne_of_gt (blk_lt (g := gb196) (o := .cells #[.int .i64 a0_0, .slice A0_1 l0_1.length c0_1, .slice A0_2 l0_2.length c0_2] 29 (0, 0)) kz) : gb197 ≠ gb196)); clear BK196; clear HB; have BK196 := n0_; have HB := n1_; have BK197 := n2_; have GW197 := n3_; have GE197 := n4_; have NB196_197 := n5_; have NB197_196 := n6_; clear n0_ n1_ n2_ n3_ n4_ n5_ n6_; clear hb hbox hg; have hnb12 := NB197_196.out; have hnc12 := NB196_197.out; have hcz13_0 : w11.cell? ⟨gb197, 0, none⟩ = some (.int .i64 a1_0) := (blk_cell BK197.out 0).trans rfl; have hcz13_1 : w11.cell? ⟨gb197, 1, none⟩ = some (.int .i64 a1_1) := (blk_cell BK197.out 1).trans rfl; have hcz13_2 : w11.cell? ⟨gb197, 2, none⟩ = some (.int .i64 a1_2) := (blk_cell BK197.out 2).trans rfl; have hcz13_3 : w11.cell? ⟨gb197, 3, none⟩ = some (.int .i64 a1_3) := (blk_cell BK197.out 3).trans rfl; have hcz13_4 : w11.cell? ⟨gb197, 4, none⟩ = some (.int .i64 a1_4) := (blk_cell BK197.out 4).trans rfl; have hcz13_5 : w11.cell? ⟨gb197, 5, none⟩ = some (.int .i64 a1_5) := (blk_cell BK197.out 5).trans rfl; have hcz13_6 : w11.cell? ⟨gb197, 6, none⟩ = some (.string a1_6) := (blk_cell BK197.out 6).trans rfl; have hcz13_7 : w11.cell? ⟨gb197, 7, none⟩ = some (.slice A1_7 l1_7.length c1_7) := (blk_cell BK197.out 7).trans rfl; have hfz13_0 := blk_frozen BK197.out 0; have hfz13_1 := blk_frozen BK197.out 1; have hfz13_2 := blk_frozen BK197.out 2; have hfz13_3 := blk_frozen BK197.out 3; have hfz13_4 := blk_frozen BK197.out 4; have hfz13_5 := blk_frozen BK197.out 5; have hfz13_6 := blk_frozen BK197.out 6; have hfz13_7 := blk_frozen BK197.out 7; have hcz14_0 : w11.cell? ⟨gb196, 0, none⟩ = some (.int .i64 a0_0) := (blk_cell BK196.out 0).trans rfl; have hcz14_1 : w11.cell? ⟨gb196, 1, none⟩ = some (.slice A0_1 l0_1.length c0_1) := (blk_cell BK196.out 1).trans rfl; have hcz14_2 : w11.cell? ⟨gb196, 2, none⟩ = some (.slice A0_2 l0_2.length c0_2) := (blk_cell BK196.out 2).trans rfl; have hfz14_0 := blk_frozen BK196.out 0; have hfz14_1 := blk_frozen BK196.out 1; have hfz14_2 := blk_frozen BK196.out 2))
       go_ret
       exact ⟨by first | rfl | (simp [errW_none, errW_some] <;> rfl) | (simp [*, errW_none, errW_some] <;> rfl), bz⟩
     · rw [if_neg c9] at H
       have c9b0 : decide ((l0_2.length : Int) ≤ a1_5) = false := decide_eq_false c9
       clear c9
       obtain rfl := Option.some.inj H
       go_enter Try.func128, Try.ntmps128
       go_wp2_with (first | ((with_reducible refine gate_dst (N := 2) rfl ?_); (try (refine gate_guard (by rfl) ?_; dsimp only)); refine box_event ?hg (N := 2) ?hd (cs := #[.int .i64 a0_0, .slice A0_1 l0_1.length c0_1, .slice A0_2 l0_2.length c0_2]) (t := 29) ?hr ?_; (case hd => rfl); (case hg => rfl); (case hr => first | (go_simp; done) | (go_simp; rfl)); intro gb196 hg w15 hbox hb; have n0_ := Aside0.mk (below_step bz hb); have n1_ := Aside0.mk (hbox); have n2_ := Aside0.mk ((by rw [hg]; exact (below_size bz) : w.heap.size ≤ gb196)); have n3_ := Aside0.mk ((by rw [hg]; exact (below_size bz) : w.heap.size ≤ gb196)); clear HB; have HB := n0_; have BK196 := n1_; have GW196 := n2_; have GE196 := n3_; clear n0_ n1_ n2_ n3_; clear hb hbox hg) | ((with_reducible refine gate_dst (N := 3) rfl ?_); (try (refine gate_guard (by rfl) ?_; dsimp only)); refine box_event ?hg (N := 3) ?hd (cs := #[.int .i64 a1_0, .int .i64 a1_1, .int .i64 a1_2, .int .i64 a1_3, .int .i64 a1_4, .int .i64 a1_5, .string a1_6, .slice A1_7 l1_7.length c1_7]) (t := 87) ?hr ?_; (case hd => rfl); (case hg => rfl); (case hr => first | (go_simp; done) | (go_simp; rfl)); intro gb197 hg w16 hbox hb; have n0_ := Aside0.mk (blk_below (g := gb196) (o := .cells #[.int .i64 a0_0, .slice A0_1 l0_1.length c0_1, .slice A0_2 l0_2.length c0_2] 29 (0, 0)) kz hb); have n1_ := Aside0.mk (below_step bz hb); have n2_ := Aside0.mk (hbox); have n3_ := Aside0.mk ((by rw [hg]; exact (below_size bz) : w.heap.size ≤ gb197)); have n4_ := Aside0.mk ((by rw [hg]; exact (below_size bz) : w.heap.size ≤ gb197)); have n5_ := Aside0.mk ((by rw [hg]; exact Nat.ne_of_lt (blk_lt (g := gb196) (o := .cells #[.int .i64 a0_0, .slice A0_1 l0_1.length c0_1, .slice A0_2 l0_2.length c0_2] 29 (0, 0)) kz) : gb196 ≠ gb197)); have n6_ := Aside0.mk ((by rw [hg]; exact Nat.ne_of_gt (blk_lt (g := gb196) (o := .cells #[.int .i64 a0_0, .slice A0_1 l0_1.length c0_1, .slice A0_2 l0_2.length c0_2] 29 (0, 0)) kz) : gb197 ≠ gb196)); clear BK196; clear HB; have BK196 := n0_; have HB := n1_; have BK197 := n2_; have GW197 := n3_; have GE197 := n4_; have NB196_197 := n5_; have NB197_196 := n6_; clear n0_ n1_ n2_ n3_ n4_ n5_ n6_; clear hb hbox hg; have hnb17 := NB197_196.out; have hnc17 := NB196_197.out; have hcz18_0 : w16.cell? ⟨gb197, 0, none⟩ = some (.int .i64 a1_0) := (blk_cell BK197.out 0).trans rfl; have hcz18_1 : w16.cell? ⟨gb197, 1, none⟩ = some (.int .i64 a1_1) := (blk_cell BK197.out 1).trans rfl; have hcz18_2 : w16.cell? ⟨gb197, 2, none⟩ = some (.int .i64 a1_2) := (blk_cell BK197.out 2).trans rfl; have hcz18_3 : w16.cell? ⟨gb197, 3, none⟩ = some (.int .i64 a1_3) := (blk_cell BK197.out 3).trans rfl; have hcz18_4 : w16.cell? ⟨gb197, 4, none⟩ = some (.int .i64 a1_4) := (blk_cell BK197.out 4).trans rfl; have hcz18_5 : w16.cell? ⟨gb197, 5, none⟩ = some (.int .i64 a1_5) := (blk_cell BK197.out 5).trans rfl; have hcz18_6 : w16.cell? ⟨gb197, 6, none⟩ = some (.string a1_6) := (blk_cell BK197.out 6).trans rfl; have hcz18_7 : w16.cell? ⟨gb197, 7, none⟩ = some (.slice A1_7 l1_7.length c1_7) := (blk_cell BK197.out 7).trans rfl; have hfz18_0 := blk_frozen BK197.out 0; have hfz18_1 := blk_frozen BK197.out 1; have hfz18_2 := blk_frozen BK197.out 2; have hfz18_3 := blk_frozen BK197.out 3; have hfz18_4 := blk_frozen BK197.out 4; have hfz18_5 := blk_frozen BK197.out 5; have hfz18_6 := blk_frozen BK197.out 6; have hfz18_7 := blk_frozen BK197.out 7; have hcz19_0 : w16.cell? ⟨gb196, 0, none⟩ = some (.int .i64 a0_0) := (blk_cell BK196.out 0).trans rfl; have hcz19_1 : w16.cell? ⟨gb196, 1, none⟩ = some (.slice A0_1 l0_1.length c0_1) := (blk_cell BK196.out 1).trans rfl; have hcz19_2 : w16.cell? ⟨gb196, 2, none⟩ = some (.slice A0_2 l0_2.length c0_2) := (blk_cell BK196.out 2).trans rfl; have hfz19_0 := blk_frozen BK196.out 0; have hfz19_1 := blk_frozen BK196.out 1; have hfz19_2 := blk_frozen BK196.out 2))
       go_ret
       exact ⟨by first | rfl | (simp [errW_none, errW_some] <;> rfl) | (simp [*, errW_none, errW_some] <;> rfl), bz⟩
 · rw [if_neg c3] at H
   have c3b0 : (a1_0 == 23) = false := beq_eq_false_iff_ne.mpr c3
   have c3b1 : (a1_0 != 23) = true := bne_iff_ne.mpr c3
   by_cases c20 : a1_0 = 24
   · rw [if_pos c20] at H
     have c20b0 : (a1_0 == 24) = true := beq_iff_eq.mpr c20
     have c20b1 : (a1_0 != 24) = false := bne_eq_false_iff_eq.mpr c20
     clear c20
     by_cases c21 : a1_5 < 0
     · rw [if_pos c21] at H
       have c21b0 : decide (a1_5 < 0) = true := decide_eq_true c21
       clear c21
       obtain rfl := Option.some.inj H
       go_enter Try.func128, Try.ntmps128
       go_wp2_with (first | ((with_reducible refine gate_dst (N := 2) rfl ?_); (try (refine gate_guard (by rfl) ?_; dsimp only)); refine box_event ?hg (N := 2) ?hd (cs := #[.int .i64 a0_0, .slice A0_1 l0_1.length c0_1, .slice A0_2 l0_2.length c0_2]) (t := 29) ?hr ?_; (case hd => rfl); (case hg => rfl); (case hr => first | (go_simp; done) | (go_simp; rfl)); intro gb196 hg w22 hbox hb; have n0_ := Aside0.mk (below_step bz hb); have n1_ := Aside0.mk (hbox); have n2_ := Aside0.mk ((by rw [hg]; exact (below_size bz) : w.heap.size ≤ gb196)); have n3_ := Aside0.mk ((by rw [hg]; exact (below_size bz) : w.heap.size ≤ gb196)); clear HB; have HB := n0_; have BK196 := n1_; have GW196 := n2_; have GE196 := n3_; clear n0_ n1_ n2_ n3_; clear hb hbox hg) | ((with_reducible refine gate_dst (N := 3) rfl ?_); (try (refine gate_guard (by rfl) ?_; dsimp only)); refine box_event ?hg (N := 3) ?hd (cs := #[.int .i64 a1_0, .int .i64 a1_1, .int .i64 a1_2, .int .i64 a1_3, .int .i64 a1_4, .int .i64 a1_5, .string a1_6, .slice A1_7 l1_7.length c1_7]) (t := 87) ?hr ?_; (case hd => rfl); (case hg => rfl); (case hr => first | (go_simp; done) | (go_simp; rfl)); intro gb197 hg w23 hbox hb; have n0_ := Aside0.mk (blk_below (g := gb196) (o := .cells #[.int .i64 a0_0, .slice A0_1 l0_1.length c0_1, .slice A0_2 l0_2.length c0_2] 29 (0, 0)) kz hb); have n1_ := Aside0.mk (below_step bz hb); have n2_ := Aside0.mk (hbox); have n3_ := Aside0.mk ((by rw [hg]; exact (below_size bz) : w.heap.size ≤ gb197)); have n4_ := Aside0.mk ((by rw [hg]; exact (below_size bz) : w.heap.size ≤ gb197)); have n5_ := Aside0.mk ((by rw [hg]; exact Nat.ne_of_lt (blk_lt (g := gb196) (o := .cells #[.int .i64 a0_0, .slice A0_1 l0_1.length c0_1, .slice A0_2 l0_2.length c0_2] 29 (0, 0)) kz) : gb196 ≠ gb197)); have n6_ := Aside0.mk ((by rw [hg]; exact Nat.ne_of_gt (blk_lt (g := gb196) (o := .cells #[.int .i64 a0_0, .slice A0_1 l0_1.length c0_1, .slice A0_2 l0_2.length c0_2] 29 (0, 0)) kz) : gb197 ≠ gb196)); clear BK196; clear HB; have BK196 := n0_; have HB := n1_; have BK197 := n2_; have GW197 := n3_; have GE197 := n4_; have NB196_197 := n5_; have NB197_196 := n6_; clear n0_ n1_ n2_ n3_ n4_ n5_ n6_; clear hb hbox hg; have hnb24 := NB197_196.out; have hnc24 := NB196_197.out; have hcz25_0 : w23.cell? ⟨gb197, 0, none⟩ = some (.int .i64 a1_0) := (blk_cell BK197.out 0).trans rfl; have hcz25_1 : w23.cell? ⟨gb197, 1, none⟩ = some (.int .i64 a1_1) := (blk_cell BK197.out 1).trans rfl; have hcz25_2 : w23.cell? ⟨gb197, 2, none⟩ = some (.int .i64 a1_2) := (blk_cell BK197.out 2).trans rfl; have hcz25_3 : w23.cell? ⟨gb197, 3, none⟩ = some (.int .i64 a1_3) := (blk_cell BK197.out 3).trans rfl; have hcz25_4 : w23.cell? ⟨gb197, 4, none⟩ = some (.int .i64 a1_4) := (blk_cell BK197.out 4).trans rfl; have hcz25_5 : w23.cell? ⟨gb197, 5, none⟩ = some (.int .i64 a1_5) := (blk_cell BK197.out 5).trans rfl; have hcz25_6 : w23.cell? ⟨gb197, 6, none⟩ = some (.string a1_6) := (blk_cell BK197.out 6).trans rfl; have hcz25_7 : w23.cell? ⟨gb197, 7, none⟩ = some (.slice A1_7 l1_7.length c1_7) := (blk_cell BK197.out 7).trans rfl; have hfz25_0 := blk_frozen BK197.out 0; have hfz25_1 := blk_frozen BK197.out 1; have hfz25_2 := blk_frozen BK197.out 2; have hfz25_3 := blk_frozen BK197.out 3; have hfz25_4 := blk_frozen BK197.out 4; have hfz25_5 := blk_frozen BK197.out 5; have hfz25_6 := blk_frozen BK197.out 6; have hfz25_7 := blk_frozen BK197.out 7))
       go_ret
       exact ⟨by first | rfl | (simp [errW_none, errW_some] <;> rfl) | (simp [*, errW_none, errW_some] <;> rfl), bz⟩
     · rw [if_neg c21] at H
       have c21b0 : decide (a1_5 < 0) = false := decide_eq_false c21
       clear c21
       by_cases c26 : a1_5 ≥ (l0_2.length : Int)
       · rw [if_pos c26] at H
         have c26b0 : decide ((l0_2.length : Int) ≤ a1_5) = true := decide_eq_true c26
         clear c26
         obtain rfl := Option.some.inj H
         go_enter Try.func128, Try.ntmps128
         go_wp2_with (first | ((with_reducible refine gate_dst (N := 2) rfl ?_); (try (refine gate_guard (by rfl) ?_; dsimp only)); refine box_event ?hg (N := 2) ?hd (cs := #[.int .i64 a0_0, .slice A0_1 l0_1.length c0_1, .slice A0_2 l0_2.length c0_2]) (t := 29) ?hr ?_; (case hd => rfl); (case hg => rfl); (case hr => first | (go_simp; done) | (go_simp; rfl)); intro gb196 hg w27 hbox hb; have n0_ := Aside0.mk (below_step bz hb); have n1_ := Aside0.mk (hbox); have n2_ := Aside0.mk ((by rw [hg]; exact (below_size bz) : w.heap.size ≤ gb196)); have n3_ := Aside0.mk ((by rw [hg]; exact (below_size bz) : w.heap.size ≤ gb196)); clear HB; have HB := n0_; have BK196 := n1_; have GW196 := n2_; have GE196 := n3_; clear n0_ n1_ n2_ n3_; clear hb hbox hg) | ((with_reducible refine gate_dst (N := 3) rfl ?_); (try (refine gate_guard (by rfl) ?_; dsimp only)); refine box_event ?hg (N := 3) ?hd (cs := #[.int .i64 a1_0, .int .i64 a1_1, .int .i64 a1_2, .int .i64 a1_3, .int .i64 a1_4, .int .i64 a1_5, .string a1_6, .slice A1_7 l1_7.length c1_7]) (t := 87) ?hr ?_; (case hd => rfl); (case hg => rfl); (case hr => first | (go_simp; done) | (go_simp; rfl)); intro gb197 hg w28 hbox hb; have n0_ := Aside0.mk (blk_below (g := gb196) (o := .cells #[.int .i64 a0_0, .slice A0_1 l0_1.length c0_1, .slice A0_2 l0_2.length c0_2] 29 (0, 0)) kz hb); have n1_ := Aside0.mk (below_step bz hb); have n2_ := Aside0.mk (hbox); have n3_ := Aside0.mk ((by rw [hg]; exact (below_size bz) : w.heap.size ≤ gb197)); have n4_ := Aside0.mk ((by rw [hg]; exact (below_size bz) : w.heap.size ≤ gb197)); have n5_ := Aside0.mk ((by rw [hg]; exact Nat.ne_of_lt (blk_lt (g := gb196) (o := .cells #[.int .i64 a0_0, .slice A0_1 l0_1.length c0_1, .slice A0_2 l0_2.length c0_2] 29 (0, 0)) kz) : gb196 ≠ gb197)); have n6_ := Aside0.mk ((by rw [hg]; exact Nat.ne_of_gt (blk_lt (g := gb196) (o := .cells #[.int .i64 a0_0, .slice A0_1 l0_1.length c0_1, .slice A0_2 l0_2.length c0_2] 29 (0, 0)) kz) : gb197 ≠ gb196)); clear BK196; clear HB; have BK196 := n0_; have HB := n1_; have BK197 := n2_; have GW197 := n3_; have GE197 := n4_; have NB196_197 := n5_; have NB197_196 := n6_; clear n0_ n1_ n2_ n3_ n4_ n5_ n6_; clear hb hbox hg; have hnb29 := NB197_196.out; have hnc29 := NB196_197.out; have hcz30_0 : w28.cell? ⟨gb197, 0, none⟩ = some (.int .i64 a1_0) := (blk_cell BK197.out 0).trans rfl; have hcz30_1 : w28.cell? ⟨gb197, 1, none⟩ = some (.int .i64 a1_1) := (blk_cell BK197.out 1).trans rfl; have hcz30_2 : w28.cell? ⟨gb197, 2, none⟩ = some (.int .i64 a1_2) := (blk_cell BK197.out 2).trans rfl; have hcz30_3 : w28.cell? ⟨gb197, 3, none⟩ = some (.int .i64 a1_3) := (blk_cell BK197.out 3).trans rfl; have hcz30_4 : w28.cell? ⟨gb197, 4, none⟩ = some (.int .i64 a1_4) := (blk_cell BK197.out 4).trans rfl; have hcz30_5 : w28.cell? ⟨gb197, 5, none⟩ = some (.int .i64 a1_5) := (blk_cell BK197.out 5).trans rfl; have hcz30_6 : w28.cell? ⟨gb197, 6, none⟩ = some (.string a1_6) := (blk_cell BK197.out 6).trans rfl; have hcz30_7 : w28.cell? ⟨gb197, 7, none⟩ = some (.slice A1_7 l1_7.length c1_7) := (blk_cell BK197.out 7).trans rfl; have hfz30_0 := blk_frozen BK197.out 0; have hfz30_1 := blk_frozen BK197.out 1; have hfz30_2 := blk_frozen BK197.out 2; have hfz30_3 := blk_frozen BK197.out 3; have hfz30_4 := blk_frozen BK197.out 4; have hfz30_5 := blk_frozen BK197.out 5; have hfz30_6 := blk_frozen BK197.out 6; have hfz30_7 := blk_frozen BK197.out 7; have hcz31_0 : w28.cell? ⟨gb196, 0, none⟩ = some (.int .i64 a0_0) := (blk_cell BK196.out 0).trans rfl; have hcz31_1 : w28.cell? ⟨gb196, 1, none⟩ = some (.slice A0_1 l0_1.length c0_1) := (blk_cell BK196.out 1).trans rfl; have hcz31_2 : w28.cell? ⟨gb196, 2, none⟩ = some (.slice A0_2 l0_2.length c0_2) := (blk_cell BK196.out 2).trans rfl; have hfz31_0 := blk_frozen BK196.out 0; have hfz31_1 := blk_frozen BK196.out 1; have hfz31_2 := blk_frozen BK196.out 2))
         go_ret
         exact ⟨by first | rfl | (simp [errW_none, errW_some] <;> rfl) | (simp [*, errW_none, errW_some] <;> rfl), bz⟩
       · rw [if_neg c26] at H
         have c26b0 : decide ((l0_2.length : Int) ≤ a1_5) = false := decide_eq_false c26
         clear c26
         obtain rfl := Option.some.inj H
         go_enter Try.func128, Try.ntmps128
         go_wp2_with (first | ((with_reducible refine gate_dst (N := 2) rfl ?_); (try (refine gate_guard (by rfl) ?_; dsimp only)); refine box_event ?hg (N := 2) ?hd (cs := #[.int .i64 a0_0, .slice A0_1 l0_1.length c0_1, .slice A0_2 l0_2.length c0_2]) (t := 29) ?hr ?_; (case hd => rfl); (case hg => rfl); (case hr => first | (go_simp; done) | (go_simp; rfl)); intro gb196 hg w32 hbox hb; have n0_ := Aside0.mk (below_step bz hb); have n1_ := Aside0.mk (hbox); have n2_ := Aside0.mk ((by rw [hg]; exact (below_size bz) : w.heap.size ≤ gb196)); have n3_ := Aside0.mk ((by rw [hg]; exact (below_size bz) : w.heap.size ≤ gb196)); clear HB; have HB := n0_; have BK196 := n1_; have GW196 := n2_; have GE196 := n3_; clear n0_ n1_ n2_ n3_; clear hb hbox hg) | ((with_reducible refine gate_dst (N := 3) rfl ?_); (try (refine gate_guard (by rfl) ?_; dsimp only)); refine box_event ?hg (N := 3) ?hd (cs := #[.int .i64 a1_0, .int .i64 a1_1, .int .i64 a1_2, .int .i64 a1_3, .int .i64 a1_4, .int .i64 a1_5, .string a1_6, .slice A1_7 l1_7.length c1_7]) (t := 87) ?hr ?_; (case hd => rfl); (case hg => rfl); (case hr => first | (go_simp; done) | (go_simp; rfl)); intro gb197 hg w33 hbox hb; have n0_ := Aside0.mk (blk_below (g := gb196) (o := .cells #[.int .i64 a0_0, .slice A0_1 l0_1.length c0_1, .slice A0_2 l0_2.length c0_2] 29 (0, 0)) kz hb); have n1_ := Aside0.mk (below_step bz hb); have n2_ := Aside0.mk (hbox); have n3_ := Aside0.mk ((by rw [hg]; exact (below_size bz) : w.heap.size ≤ gb197)); have n4_ := Aside0.mk ((by rw [hg]; exact (below_size bz) : w.heap.size ≤ gb197)); have n5_ := Aside0.mk ((by rw [hg]; exact Nat.ne_of_lt (blk_lt (g := gb196) (o := .cells #[.int .i64 a0_0, .slice A0_1 l0_1.length c0_1, .slice A0_2 l0_2.length c0_2] 29 (0, 0)) kz) : gb196 ≠ gb197)); have n6_ := Aside0.mk ((by rw [hg]; exact Nat.ne_of_gt (blk_lt (g := gb196) (o := .cells #[.int .i64 a0_0, .slice A0_1 l0_1.length c0_1, .slice A0_2 l0_2.length c0_2] 29 (0, 0)) kz) : gb197 ≠ gb196)); clear BK196; clear HB; have BK196 := n0_; have HB := n1_; have BK197 := n2_; have GW197 := n3_; have GE197 := n4_; have NB196_197 := n5_; have NB197_196 := n6_; clear n0_ n1_ n2_ n3_ n4_ n5_ n6_; clear hb hbox hg; have hnb34 := NB197_196.out; have hnc34 := NB196_197.out; have hcz35_0 : w33.cell? ⟨gb197, 0, none⟩ = some (.int .i64 a1_0) := (blk_cell BK197.out 0).trans rfl; have hcz35_1 : w33.cell? ⟨gb197, 1, none⟩ = some (.int .i64 a1_1) := (blk_cell BK197.out 1).trans rfl; have hcz35_2 : w33.cell? ⟨gb197, 2, none⟩ = some (.int .i64 a1_2) := (blk_cell BK197.out 2).trans rfl; have hcz35_3 : w33.cell? ⟨gb197, 3, none⟩ = some (.int .i64 a1_3) := (blk_cell BK197.out 3).trans rfl; have hcz35_4 : w33.cell? ⟨gb197, 4, none⟩ = some (.int .i64 a1_4) := (blk_cell BK197.out 4).trans rfl; have hcz35_5 : w33.cell? ⟨gb197, 5, none⟩ = some (.int .i64 a1_5) := (blk_cell BK197.out 5).trans rfl; have hcz35_6 : w33.cell? ⟨gb197, 6, none⟩ = some (.string a1_6) := (blk_cell BK197.out 6).trans rfl; have hcz35_7 : w33.cell? ⟨gb197, 7, none⟩ = some (.slice A1_7 l1_7.length c1_7) := (blk_cell BK197.out 7).trans rfl; have hfz35_0 := blk_frozen BK197.out 0; have hfz35_1 := blk_frozen BK197.out 1; have hfz35_2 := blk_frozen BK197.out 2; have hfz35_3 := blk_frozen BK197.out 3; have hfz35_4 := blk_frozen BK197.out 4; have hfz35_5 := blk_frozen BK197.out 5; have hfz35_6 := blk_frozen BK197.out 6; have hfz35_7 := blk_frozen BK197.out 7; have hcz36_0 : w33.cell? ⟨gb196, 0, none⟩ = some (.int .i64 a0_0) := (blk_cell BK196.out 0).trans rfl; have hcz36_1 : w33.cell? ⟨gb196, 1, none⟩ = some (.slice A0_1 l0_1.length c0_1) := (blk_cell BK196.out 1).trans rfl; have hcz36_2 : w33.cell? ⟨gb196, 2, none⟩ = some (.slice A0_2 l0_2.length c0_2) := (blk_cell BK196.out 2).trans rfl; have hfz36_0 := blk_frozen BK196.out 0; have hfz36_1 := blk_frozen BK196.out 1; have hfz36_2 := blk_frozen BK196.out 2))
         go_ret
         exact ⟨by first | rfl | (simp [errW_none, errW_some] <;> rfl) | (simp [*, errW_none, errW_some] <;> rfl), bz⟩
   · rw [if_neg c20] at H
     have c20b0 : (a1_0 == 24) = false := beq_eq_false_iff_ne.mpr c20
     have c20b1 : (a1_0 != 24) = true := bne_iff_ne.mpr c20
     by_cases c37 : a1_0 = 25
     · rw [if_pos c37] at H
       have c37b0 : (a1_0 == 25) = true := beq_iff_eq.mpr c37
       have c37b1 : (a1_0 != 25) = false := bne_eq_false_iff_eq.mpr c37
       clear c37
       by_cases c38 : a1_5 < 0
       · rw [if_pos c38] at H
         have c38b0 : decide (a1_5 < 0) = true := decide_eq_true c38
         clear c38
         obtain rfl := Option.some.inj H
         go_enter Try.func128, Try.ntmps128
         go_wp2_with (first | ((with_reducible refine gate_dst (N := 2) rfl ?_); (try (refine gate_guard (by rfl) ?_; dsimp only)); refine box_event ?hg (N := 2) ?hd (cs := #[.int .i64 a0_0, .slice A0_1 l0_1.length c0_1, .slice A0_2 l0_2.length c0_2]) (t := 29) ?hr ?_; (case hd => rfl); (case hg => rfl); (case hr => first | (go_simp; done) | (go_simp; rfl)); intro gb196 hg w39 hbox hb; have n0_ := Aside0.mk (below_step bz hb); have n1_ := Aside0.mk (hbox); have n2_ := Aside0.mk ((by rw [hg]; exact (below_size bz) : w.heap.size ≤ gb196)); have n3_ := Aside0.mk ((by rw [hg]; exact (below_size bz) : w.heap.size ≤ gb196)); clear HB; have HB := n0_; have BK196 := n1_; have GW196 := n2_; have GE196 := n3_; clear n0_ n1_ n2_ n3_; clear hb hbox hg) | ((with_reducible refine gate_dst (N := 3) rfl ?_); (try (refine gate_guard (by rfl) ?_; dsimp only)); refine box_event ?hg (N := 3) ?hd (cs := #[.int .i64 a1_0, .int .i64 a1_1, .int .i64 a1_2, .int .i64 a1_3, .int .i64 a1_4, .int .i64 a1_5, .string a1_6, .slice A1_7 l1_7.length c1_7]) (t := 87) ?hr ?_; (case hd => rfl); (case hg => rfl); (case hr => first | (go_simp; done) | (go_simp; rfl)); intro gb197 hg w40 hbox hb; have n0_ := Aside0.mk (blk_below (g := gb196) (o := .cells #[.int .i64 a0_0, .slice A0_1 l0_1.length c0_1, .slice A0_2 l0_2.length c0_2] 29 (0, 0)) kz hb); have n1_ := Aside0.mk (below_step bz hb); have n2_ := Aside0.mk (hbox); have n3_ := Aside0.mk ((by rw [hg]; exact (below_size bz) : w.heap.size ≤ gb197)); have n4_ := Aside0.mk ((by rw [hg]; exact (below_size bz) : w.heap.size ≤ gb197)); have n5_ := Aside0.mk ((by rw [hg]; exact Nat.ne_of_lt (blk_lt (g := gb196) (o := .cells #[.int .i64 a0_0, .slice A0_1 l0_1.length c0_1, .slice A0_2 l0_2.length c0_2] 29 (0, 0)) kz) : gb196 ≠ gb197)); have n6_ := Aside0.mk ((by rw [hg]; exact Nat.ne_of_gt (blk_lt (g := gb196) (o := .cells #[.int .i64 a0_0, .slice A0_1 l0_1.length c0_1, .slice A0_2 l0_2.length c0_2] 29 (0, 0)) kz) : gb197 ≠ gb196)); clear BK196; clear HB; have BK196 := n0_; have HB := n1_; have BK197 := n2_; have GW197 := n3_; have GE197 := n4_; have NB196_197 := n5_; have NB197_196 := n6_; clear n0_ n1_ n2_ n3_ n4_ n5_ n6_; clear hb hbox hg; have hnb41 := NB197_196.out; have hnc41 := NB196_197.out; have hcz42_0 : w40.cell? ⟨gb197, 0, none⟩ = some (.int .i64 a1_0) := (blk_cell BK197.out 0).trans rfl; have hcz42_1 : w40.cell? ⟨gb197, 1, none⟩ = some (.int .i64 a1_1) := (blk_cell BK197.out 1).trans rfl; have hcz42_2 : w40.cell? ⟨gb197, 2, none⟩ = some (.int .i64 a1_2) := (blk_cell BK197.out 2).trans rfl; have hcz42_3 : w40.cell? ⟨gb197, 3, none⟩ = some (.int .i64 a1_3) := (blk_cell BK197.out 3).trans rfl; have hcz42_4 : w40.cell? ⟨gb197, 4, none⟩ = some (.int .i64 a1_4) := (blk_cell BK197.out 4).trans rfl; have hcz42_5 : w40.cell? ⟨gb197, 5, none⟩ = some (.int .i64 a1_5) := (blk_cell BK197.out 5).trans rfl; have hcz42_6 : w40.cell? ⟨gb197, 6, none⟩ = some (.string a1_6) := (blk_cell BK197.out 6).trans rfl; have hcz42_7 : w40.cell? ⟨gb197, 7, none⟩ = some (.slice A1_7 l1_7.length c1_7) := (blk_cell BK197.out 7).trans rfl; have hfz42_0 := blk_frozen BK197.out 0; have hfz42_1 := blk_frozen BK197.out 1; have hfz42_2 := blk_frozen BK197.out 2; have hfz42_3 := blk_frozen BK197.out 3; have hfz42_4 := blk_frozen BK197.out 4; have hfz42_5 := blk_frozen BK197.out 5; have hfz42_6 := blk_frozen BK197.out 6; have hfz42_7 := blk_frozen BK197.out 7))
         go_ret
         exact ⟨by first | rfl | (simp [errW_none, errW_some] <;> rfl) | (simp [*, errW_none, errW_some] <;> rfl), bz⟩
       · rw [if_neg c38] at H
         have c38b0 : decide (a1_5 < 0) = false := decide_eq_false c38
         clear c38
         by_cases c43 : a1_5 ≥ (l0_2.length : Int)
         · rw [if_pos c43] at H
           have c43b0 : decide ((l0_2.length : Int) ≤ a1_5) = true := decide_eq_true c43
           clear c43
           obtain rfl := Option.some.inj H
           go_enter Try.func128, Try.ntmps128
           go_wp2_with (first | ((with_reducible refine gate_dst (N := 2) rfl ?_); (try (refine gate_guard (by rfl) ?_; dsimp only)); refine box_event ?hg (N := 2) ?hd (cs := #[.int .i64 a0_0, .slice A0_1 l0_1.length c0_1, .slice A0_2 l0_2.length c0_2]) (t := 29) ?hr ?_; (case hd => rfl); (case hg => rfl); (case hr => first | (go_simp; done) | (go_simp; rfl)); intro gb196 hg w44 hbox hb; have n0_ := Aside0.mk (below_step bz hb); have n1_ := Aside0.mk (hbox); have n2_ := Aside0.mk ((by rw [hg]; exact (below_size bz) : w.heap.size ≤ gb196)); have n3_ := Aside0.mk ((by rw [hg]; exact (below_size bz) : w.heap.size ≤ gb196)); clear HB; have HB := n0_; have BK196 := n1_; have GW196 := n2_; have GE196 := n3_; clear n0_ n1_ n2_ n3_; clear hb hbox hg) | ((with_reducible refine gate_dst (N := 3) rfl ?_); (try (refine gate_guard (by rfl) ?_; dsimp only)); refine box_event ?hg (N := 3) ?hd (cs := #[.int .i64 a1_0, .int .i64 a1_1, .int .i64 a1_2, .int .i64 a1_3, .int .i64 a1_4, .int .i64 a1_5, .string a1_6, .slice A1_7 l1_7.length c1_7]) (t := 87) ?hr ?_; (case hd => rfl); (case hg => rfl); (case hr => first | (go_simp; done) | (go_simp; rfl)); intro gb197 hg w45 hbox hb; have n0_ := Aside0.mk (blk_below (g := gb196) (o := .cells #[.int .i64 a0_0, .slice A0_1 l0_1.length c0_1, .slice A0_2 l0_2.length c0_2] 29 (0, 0)) kz hb); have n1_ := Aside0.mk (below_step bz hb); have n2_ := Aside0.mk (hbox); have n3_ := Aside0.mk ((by rw [hg]; exact (below_size bz) : w.heap.size ≤ gb197)); have n4_ := Aside0.mk ((by rw [hg]; exact (below_size bz) : w.heap.size ≤ gb197)); have n5_ := Aside0.mk ((by rw [hg]; exact Nat.ne_of_lt (blk_lt (g := gb196) (o := .cells #[.int .i64 a0_0, .slice A0_1 l0_1.length c0_1, .slice A0_2 l0_2.length c0_2] 29 (0, 0)) kz) : gb196 ≠ gb197)); have n6_ := Aside0.mk ((by rw [hg]; exact Nat.ne_of_gt (blk_lt (g := gb196) (o := .cells #[.int .i64 a0_0, .slice A0_1 l0_1.length c0_1, .slice A0_2 l0_2.length c0_2] 29 (0, 0)) kz) : gb197 ≠ gb196)); clear BK196; clear HB; have BK196 := n0_; have HB := n1_; have BK197 := n2_; have GW197 := n3_; have GE197 := n4_; have NB196_197 := n5_; have NB197_196 := n6_; clear n0_ n1_ n2_ n3_ n4_ n5_ n6_; clear hb hbox hg; have hnb46 := NB197_196.out; have hnc46 := NB196_197.out; have hcz47_0 : w45.cell? ⟨gb197, 0, none⟩ = some (.int .i64 a1_0) := (blk_cell BK197.out 0).trans rfl; have hcz47_1 : w45.cell? ⟨gb197, 1, none⟩ = some (.int .i64 a1_1) := (blk_cell BK197.out 1).trans rfl; have hcz47_2 : w45.cell? ⟨gb197, 2, none⟩ = some (.int .i64 a1_2) := (blk_cell BK197.out 2).trans rfl; have hcz47_3 : w45.cell? ⟨gb197, 3, none⟩ = some (.int .i64 a1_3) := (blk_cell BK197.out 3).trans rfl; have hcz47_4 : w45.cell? ⟨gb197, 4, none⟩ = some (.int .i64 a1_4) := (blk_cell BK197.out 4).trans rfl; have hcz47_5 : w45.cell? ⟨gb197, 5, none⟩ = some (.int .i64 a1_5) := (blk_cell BK197.out 5).trans rfl; have hcz47_6 : w45.cell? ⟨gb197, 6, none⟩ = some (.string a1_6) := (blk_cell BK197.out 6).trans rfl; have hcz47_7 : w45.cell? ⟨gb197, 7, none⟩ = some (.slice A1_7 l1_7.length c1_7) := (blk_cell BK197.out 7).trans rfl; have hfz47_0 := blk_frozen BK197.out 0; have hfz47_1 := blk_frozen BK197.out 1; have hfz47_2 := blk_frozen BK197.out 2; have hfz47_3 := blk_frozen BK197.out 3; have hfz47_4 := blk_frozen BK197.out 4; have hfz47_5 := blk_frozen BK197.out 5; have hfz47_6 := blk_frozen BK197.out 6; have hfz47_7 := blk_frozen BK197.out 7; have hcz48_0 : w45.cell? ⟨gb196, 0, none⟩ = some (.int .i64 a0_0) := (blk_cell BK196.out 0).trans rfl; have hcz48_1 : w45.cell? ⟨gb196, 1, none⟩ = some (.slice A0_1 l0_1.length c0_1) := (blk_cell BK196.out 1).trans rfl; have hcz48_2 : w45.cell? ⟨gb196, 2, none⟩ = some (.slice A0_2 l0_2.length c0_2) := (blk_cell BK196.out 2).trans rfl; have hfz48_0 := blk_frozen BK196.out 0; have hfz48_1 := blk_frozen BK196.out 1; have hfz48_2 := blk_frozen BK196.out 2))
           go_ret
           exact ⟨by first | rfl | (simp [errW_none, errW_some] <;> rfl) | (simp [*, errW_none, errW_some] <;> rfl), bz⟩
         · rw [if_neg c43] at H
           have c43b0 : decide ((l0_2.length : Int) ≤ a1_5) = false := decide_eq_false c43
           clear c43
           obtain rfl := Option.some.inj H
           go_enter Try.func128, Try.ntmps128
           go_wp2_with (first | ((with_reducible refine gate_dst (N := 2) rfl ?_); (try (refine gate_guard (by rfl) ?_; dsimp only)); refine box_event ?hg (N := 2) ?hd (cs := #[.int .i64 a0_0, .slice A0_1 l0_1.length c0_1, .slice A0_2 l0_2.length c0_2]) (t := 29) ?hr ?_; (case hd => rfl); (case hg => rfl); (case hr => first | (go_simp; done) | (go_simp; rfl)); intro gb196 hg w49 hbox hb; have n0_ := Aside0.mk (below_step bz hb); have n1_ := Aside0.mk (hbox); have n2_ := Aside0.mk ((by rw [hg]; exact (below_size bz) : w.heap.size ≤ gb196)); have n3_ := Aside0.mk ((by rw [hg]; exact (below_size bz) : w.heap.size ≤ gb196)); clear HB; have HB := n0_; have BK196 := n1_; have GW196 := n2_; have GE196 := n3_; clear n0_ n1_ n2_ n3_; clear hb hbox hg) | ((with_reducible refine gate_dst (N := 3) rfl ?_); (try (refine gate_guard (by rfl) ?_; dsimp only)); refine box_event ?hg (N := 3) ?hd (cs := #[.int .i64 a1_0, .int .i64 a1_1, .int .i64 a1_2, .int .i64 a1_3, .int .i64 a1_4, .int .i64 a1_5, .string a1_6, .slice A1_7 l1_7.length c1_7]) (t := 87) ?hr ?_; (case hd => rfl); (case hg => rfl); (case hr => first | (go_simp; done) | (go_simp; rfl)); intro gb197 hg w50 hbox hb; have n0_ := Aside0.mk (blk_below (g := gb196) (o := .cells #[.int .i64 a0_0, .slice A0_1 l0_1.length c0_1, .slice A0_2 l0_2.length c0_2] 29 (0, 0)) kz hb); have n1_ := Aside0.mk (below_step bz hb); have n2_ := Aside0.mk (hbox); have n3_ := Aside0.mk ((by rw [hg]; exact (below_size bz) : w.heap.size ≤ gb197)); have n4_ := Aside0.mk ((by rw [hg]; exact (below_size bz) : w.heap.size ≤ gb197)); have n5_ := Aside0.mk ((by rw [hg]; exact Nat.ne_of_lt (blk_lt (g := gb196) (o := .cells #[.int .i64 a0_0, .slice A0_1 l0_1.length c0_1, .slice A0_2 l0_2.length c0_2] 29 (0, 0)) kz) : gb196 ≠ gb197)); have n6_ := Aside0.mk ((by rw [hg]; exact Nat.ne_of_gt (blk_lt (g := gb196) (o := .cells #[.int .i64 a0_0, .slice A0_1 l0_1.length c0_1, .slice A0_2 l0_2.length c0_2] 29 (0, 0)) kz) : gb197 ≠ gb196)); clear BK196; clear HB; have BK196 := n0_; have HB := n1_; have BK197 := n2_; have GW197 := n3_; have GE197 := n4_; have NB196_197 := n5_; have NB197_196 := n6_; clear n0_ n1_ n2_ n3_ n4_ n5_ n6_; clear hb hbox hg; have hnb51 := NB197_196.out; have hnc51 := NB196_197.out; have hcz52_0 : w50.cell? ⟨gb197, 0, none⟩ = some (.int .i64 a1_0) := (blk_cell BK197.out 0).trans rfl; have hcz52_1 : w50.cell? ⟨gb197, 1, none⟩ = some (.int .i64 a1_1) := (blk_cell BK197.out 1).trans rfl; have hcz52_2 : w50.cell? ⟨gb197, 2, none⟩ = some (.int .i64 a1_2) := (blk_cell BK197.out 2).trans rfl; have hcz52_3 : w50.cell? ⟨gb197, 3, none⟩ = some (.int .i64 a1_3) := (blk_cell BK197.out 3).trans rfl; have hcz52_4 : w50.cell? ⟨gb197, 4, none⟩ = some (.int .i64 a1_4) := (blk_cell BK197.out 4).trans rfl; have hcz52_5 : w50.cell? ⟨gb197, 5, none⟩ = some (.int .i64 a1_5) := (blk_cell BK197.out 5).trans rfl; have hcz52_6 : w50.cell? ⟨gb197, 6, none⟩ = some (.string a1_6) := (blk_cell BK197.out 6).trans rfl; have hcz52_7 : w50.cell? ⟨gb197, 7, none⟩ = some (.slice A1_7 l1_7.length c1_7) := (blk_cell BK197.out 7).trans rfl; have hfz52_0 := blk_frozen BK197.out 0; have hfz52_1 := blk_frozen BK197.out 1; have hfz52_2 := blk_frozen BK197.out 2; have hfz52_3 := blk_frozen BK197.out 3; have hfz52_4 := blk_frozen BK197.out 4; have hfz52_5 := blk_frozen BK197.out 5; have hfz52_6 := blk_frozen BK197.out 6; have hfz52_7 := blk_frozen BK197.out 7; have hcz53_0 : w50.cell? ⟨gb196, 0, none⟩ = some (.int .i64 a0_0) := (blk_cell BK196.out 0).trans rfl; have hcz53_1 : w50.cell? ⟨gb196, 1, none⟩ = some (.slice A0_1 l0_1.length c0_1) := (blk_cell BK196.out 1).trans rfl; have hcz53_2 : w50.cell? ⟨gb196, 2, none⟩ = some (.slice A0_2 l0_2.length c0_2) := (blk_cell BK196.out 2).trans rfl; have hfz53_0 := blk_frozen BK196.out 0; have hfz53_1 := blk_frozen BK196.out 1; have hfz53_2 := blk_frozen BK196.out 2))
           go_ret
           exact ⟨by first | rfl | (simp [errW_none, errW_some] <;> rfl) | (simp [*, errW_none, errW_some] <;> rfl), bz⟩
     · rw [if_neg c37] at H
       have c37b0 : (a1_0 == 25) = false := beq_eq_false_iff_ne.mpr c37
       have c37b1 : (a1_0 != 25) = true := bne_iff_ne.mpr c37
       obtain rfl := Option.some.inj H
       go_enter Try.func128, Try.ntmps128
       go_wp2_with (first | ((with_reducible refine gate_dst (N := 2) rfl ?_); (try (refine gate_guard (by rfl) ?_; dsimp only)); refine box_event ?hg (N := 2) ?hd (cs := #[.int .i64 a0_0, .slice A0_1 l0_1.length c0_1, .slice A0_2 l0_2.length c0_2]) (t := 29) ?hr ?_; (case hd => rfl); (case hg => rfl); (case hr => first | (go_simp; done) | (go_simp; rfl)); intro gb196 hg w54 hbox hb; have n0_ := Aside0.mk (below_step bz hb); have n1_ := Aside0.mk (hbox); have n2_ := Aside0.mk ((by rw [hg]; exact (below_size bz) : w.heap.size ≤ gb196)); have n3_ := Aside0.mk ((by rw [hg]; exact (below_size bz) : w.heap.size ≤ gb196)); clear HB; have HB := n0_; have BK196 := n1_; have GW196 := n2_; have GE196 := n3_; clear n0_ n1_ n2_ n3_; clear hb hbox hg) | ((with_reducible refine gate_dst (N := 3) rfl ?_); (try (refine gate_guard (by rfl) ?_; dsimp only)); refine box_event ?hg (N := 3) ?hd (cs := #[.int .i64 a1_0, .int .i64 a1_1, .int .i64 a1_2, .int .i64 a1_3, .int .i64 a1_4, .int .i64 a1_5, .string a1_6, .slice A1_7 l1_7.length c1_7]) (t := 87) ?hr ?_; (case hd => rfl); (case hg => rfl); (case hr => first | (go_simp; done) | (go_simp; rfl)); intro gb197 hg w55 hbox hb; have n0_ := Aside0.mk (blk_below (g := gb196) (o := .cells #[.int .i64 a0_0, .slice A0_1 l0_1.length c0_1, .slice A0_2 l0_2.length c0_2] 29 (0, 0)) kz hb); have n1_ := Aside0.mk (below_step bz hb); have n2_ := Aside0.mk (hbox); have n3_ := Aside0.mk ((by rw [hg]; exact (below_size bz) : w.heap.size ≤ gb197)); have n4_ := Aside0.mk ((by rw [hg]; exact (below_size bz) : w.heap.size ≤ gb197)); have n5_ := Aside0.mk ((by rw [hg]; exact Nat.ne_of_lt (blk_lt (g := gb196) (o := .cells #[.int .i64 a0_0, .slice A0_1 l0_1.length c0_1, .slice A0_2 l0_2.length c0_2] 29 (0, 0)) kz) : gb196 ≠ gb197)); have n6_ := Aside0.mk ((by rw [hg]; exact Nat.ne_of_gt (blk_lt (g := gb196) (o := .cells #[.int .i64 a0_0, .slice A0_1 l0_1.length c0_1, .slice A0_2 l0_2.length c0_2] 29 (0, 0)) kz) : gb197 ≠ gb196)); clear BK196; clear HB; have BK196 := n0_; have HB := n1_; have BK197 := n2_; have GW197 := n3_; have GE197 := n4_; have NB196_197 := n5_; have NB197_196 := n6_; clear n0_ n1_ n2_ n3_ n4_ n5_ n6_; clear hb hbox hg; have hnb56 := NB197_196.out; have hnc56 := NB196_197.out; have hcz57_0 : w55.cell? ⟨gb197, 0, none⟩ = some (.int .i64 a1_0) := (blk_cell BK197.out 0).trans rfl; have hcz57_1 : w55.cell? ⟨gb197, 1, none⟩ = some (.int .i64 a1_1) := (blk_cell BK197.out 1).trans rfl; have hcz57_2 : w55.cell? ⟨gb197, 2, none⟩ = some (.int .i64 a1_2) := (blk_cell BK197.out 2).trans rfl; have hcz57_3 : w55.cell? ⟨gb197, 3, none⟩ = some (.int .i64 a1_3) := (blk_cell BK197.out 3).trans rfl; have hcz57_4 : w55.cell? ⟨gb197, 4, none⟩ = some (.int .i64 a1_4) := (blk_cell BK197.out 4).trans rfl; have hcz57_5 : w55.cell? ⟨gb197, 5, none⟩ = some (.int .i64 a1_5) := (blk_cell BK197.out 5).trans rfl; have hcz57_6 : w55.cell? ⟨gb197, 6, none⟩ = some (.string a1_6) := (blk_cell BK197.out 6).trans rfl; have hcz57_7 : w55.cell? ⟨gb197, 7, none⟩ = some (.slice A1_7 l1_7.length c1_7) := (blk_cell BK197.out 7).trans rfl; have hfz57_0 := blk_frozen BK197.out 0; have hfz57_1 := blk_frozen BK197.out 1; have hfz57_2 := blk_frozen BK197.out 2; have hfz57_3 := blk_frozen BK197.out 3; have hfz57_4 := blk_frozen BK197.out 4; have hfz57_5 := blk_frozen BK197.out 5; have hfz57_6 := blk_frozen BK197.out 6; have hfz57_7 := blk_frozen BK197.out 7))
       go_ret
       exact ⟨by first | rfl | (simp [errW_none, errW_some] <;> rfl) | (simp [*, errW_none, errW_some] <;> rfl), bz⟩

end Go.Proofs.Ythegbhfoleiegaa.All

/- copy of a row of Booleans into one of the call's own; what spec.l18Behind computes. -/
namespace Go.Proofs.Ythegbhfoleiegaa.All
open Go.RowKit Go.Proofs.YthegbhfoleiegaaW.PrintWords Go.Proofs.YthegbhfoleiegaaW.PrintLast Go.Proofs.YthegbhfoleiegaaW.PrintMore
set_option linter.unusedVariables false
set_option linter.unusedSimpArgs false
def orTo (m : Nat) (a b : List Bool) : List Bool := (List.range a.length).map fun r => a.getD r false || (decide (r < m) && b.getD r false)
theorem orTo_len (m : Nat) (a b : List Bool) : (orTo m a b).length = a.length := by unfold orTo; simp
theorem orTo_getD (m : Nat) (a b : List Bool) (r : Nat) (h : r < a.length) : (orTo m a b).getD r false = (a.getD r false || (decide (r < m) && b.getD r false)) := by
  unfold orTo
  rw [List.getD_eq_getElem?_getD, List.getElem?_map, List.getElem?_range h]
  rfl
theorem list_ext_getD {a b : List Bool} (hl : a.length = b.length) (h : ∀ r, r < a.length → a.getD r false = b.getD r false) : a = b := by
  refine List.ext_getElem hl (fun i h1 h2 => ?_)
  have := h i h1
  rw [List.getD_eq_getElem?_getD, List.getD_eq_getElem?_getD, List.getElem?_eq_getElem h1, List.getElem?_eq_getElem h2] at this
  exact this
theorem orTo_zero (a b : List Bool) : orTo 0 a b = a := list_ext_getD (orTo_len 0 a b) (fun r h => by rw [orTo_len] at h; rw [orTo_getD 0 a b r h]; simp)
theorem orTo_succ (m : Nat) (a b : List Bool) (hm : m < a.length) : (orTo m a b).set m ((orTo m a b).getD m false || b.getD m false) = orTo (m + 1) a b := by
  refine list_ext_getD (by rw [List.length_set, orTo_len, orTo_len]) (fun r h => ?_)
  rw [List.length_set, orTo_len] at h
  rw [orTo_getD (m + 1) a b r h, List.getD_eq_getElem?_getD, List.getElem?_set]
  by_cases hr : m = r
  · subst hr
    rw [if_pos rfl, if_pos (by rw [orTo_len]; exact h), orTo_getD m a b m h]
    simp
  · rw [if_neg hr, ← List.getD_eq_getElem?_getD, orTo_getD m a b r h]
    have : decide (r < m) = decide (r < m + 1) := decide_eq_decide.2 (by omega)
    rw [this]
section
variable {P : Program} {w : World} {ops : Array Oper} {rest : List Oper} {o : Oper} {a : Act} {Q : Exit → Act → World → Prop}
theorem wpList_copy_R (hgd : o.guard = none) (d s : Operand) (dT sT : TypeId)
    (ho : o.op = .call { callee := .builtin .copy, args := #[d, s], argTypes := #[dT, sT] }) (elem : TypeId) (hu : P.underlying dT = some (.slice elem)) (hsz : (P.info? elem).map (·.size) = some 1)
    (A sp : Option Addr) (n c sCap : Nat) (hd : a.eval d = .slice A n c) (hs : a.eval s = .slice sp n sCap) (base : Nat) (ok : Nat → Prop) (xs ys : List Bool) (HO : Kd.bool.R elem w base ok (.slice A n c) xs) (hn : xs.length = n) (hy : ys.length = n)
    (hC : Kd.C Kd.bool w sp n ys) (w0 : World) (hb : Below base w0 w) (h : ∀ w', Kd.bool.R elem w' base ok (.slice A n c) ys → Below base w0 w' → wpList P ops Q rest (a.put o.dst (goInt n)) w') :
    wpList P ops Q (o :: rest) a w := by
  rcases Nat.eq_zero_or_pos n with h0 | h0
  · subst h0
    have e1 : xs = [] := List.eq_nil_of_length_eq_zero hn
    have e2 : ys = [] := List.eq_nil_of_length_eq_zero hy
    subst e1
    subst e2
    exact wpList_copy_nothing hgd d s dT sT ho elem hu hsz A sp 0 c 0 sCap hd hs (by simp) (h w HO hb)
  · obtain ⟨h1, inner, ho2, hr⟩ := HO
    have e1 : inner = xs.map Value.bool := Kd.reps_encs (enc := Value.bool) hr
    subst e1
    obtain ⟨hz, ⟨hv, hn0⟩ | ⟨g, cap, cur, hv, hbg, hg, hle, hcap, hsz2, htk⟩⟩ := ho2
    · injection hv with e2 e3 e4
      omega
    · injection hv with e2 e3 e4
      subst e2
      subst e4
      obtain ⟨ad, c0, rfl, _, _, _⟩ := Kd.C_get hC false 0 (by omega) (by omega)
      change cur.toList.take (xs.length * 1) = _ at htk
      rw [Nat.mul_one] at htk
      have hcl : n ≤ cur.toList.length := by rw [← hn]; have := congrArg List.length htk; simp at this; simp; omega
      refine wpList_copy_splice hgd d s dT sT ho elem hu hsz _ _ n c n sCap hd hs g 0 cur.toList elem (by simpa using hg) (ys.map Value.bool) (by simp [hy]) (fun _ => ⟨rfl, ad, rfl, fun j v hj => ?_⟩) (by simp [hy]; simpa using hcl) (fun v hv => by obtain ⟨b, _, rfl⟩ := List.mem_map.1 hv; rfl) base w0 hb hbg (fun w' h2 h3 => ?_)
      · rw [List.getElem?_map] at hj
        obtain ⟨y, hy1, rfl⟩ := Option.map_eq_some_iff.1 hj
        have hjl : j < ys.length := (List.getElem?_eq_some_iff.1 hy1).1
        obtain ⟨ad', c', e', _, hK, hc'⟩ := Kd.C_get hC false (j : Int) (by omega) (by omega)
        cases e'
        have := hc' 0 _ (by have hK2 : c' = [Value.bool (ys.getD j false)] := hK; rw [hK2]; rfl)
        rw [Int.toNat_natCast] at this
        change w.cell? (ad.add (j * 1 + 0)) = _ at this
        rw [Nat.mul_one, Nat.add_zero] at this
        have e5 : ys.getD j false = y := by rw [List.getD_eq_getElem?_getD, hy1]; rfl
        rw [e5] at this
        exact this
      · have hlen : (splice cur.toList 0 (ys.map Value.bool)).length = cur.toList.length := length_splice _ _ _ (by simp [hy]; simpa using hcl)
        have h4 : w'.ownsRow base elem 1 (.slice (some ⟨g, 0, none⟩) n c) ys.length (ys.map Value.bool) := by
          refine ⟨by simp, .inr ⟨g, c, (splice cur.toList 0 (ys.map Value.bool)).toArray, by rw [hy], hbg, h2, by rw [hy, ← hn]; exact hle, hcap, ?_, ?_⟩⟩
          · simp only [List.size_toArray]; rw [hlen]; exact hsz2
          · rw [Nat.mul_one]; simp [splice, hy]
        have e9 : (goInt ((ys.map Value.bool).length : Nat)) = goInt n := by simp [hy]
        have h5 := h w' ⟨h1, _, h4, Kd.reps_scalar (enc := Value.bool) ys⟩ h3
        simpa [hy] using h5
end
end Go.Proofs.Ythegbhfoleiegaa.All

namespace Go.Proofs.Ythegbhfoleiegaa.All
open Go.RowKit Go.Proofs.YthegbhfoleiegaaW.PrintWords Go.Proofs.YthegbhfoleiegaaW.PrintLast Go.Proofs.YthegbhfoleiegaaW.PrintMore
attribute [local go_sem] max2_int min2_int max_two min_two max_three min_three max_four min_four   -- for this text's walks alone
set_option linter.unusedVariables false
set_option linter.unusedSimpArgs false

def spec_l18Behind.f (k : Nat) (a0_0 : Int) (l0_1 : List Int) (l0_2 : List (S85)) (l1 : List (List Bool)) (a2 : Int) (a3 : Int) (l4 : List Bool) : Option (List Bool) :=
 if 0 ≤ a2 then if a2 < (l0_2.length : Int) then if 0 ≤ a3 then if a3 < (((rd_T85 l0_2 a2).f0).length : Int) then if l4.length ≤ 1000000000 then
  (spec_l18Goes.f (rd_T87 (rd_T85 l0_2 a2).f0 a3).f0 (rd_T87 (rd_T85 l0_2 a2).f0 a3).f1 (rd_T87 (rd_T85 l0_2 a2).f0 a3).f2 (rd_T87 (rd_T85 l0_2 a2).f0 a3).f3 (rd_T87 (rd_T85 l0_2 a2).f0 a3).f4 (rd_T87 (rd_T85 l0_2 a2).f0 a3).f5 (rd_T87 (rd_T85 l0_2 a2).f0 a3).f6 (rd_T87 (rd_T85 l0_2 a2).f0 a3).f7).bind fun g =>
  (spec_l18Jumps.f a0_0 l0_1 l0_2 (rd_T87 (rd_T85 l0_2 a2).f0 a3).f0 (rd_T87 (rd_T85 l0_2 a2).f0 a3).f1 (rd_T87 (rd_T85 l0_2 a2).f0 a3).f2 (rd_T87 (rd_T85 l0_2 a2).f0 a3).f3 (rd_T87 (rd_T85 l0_2 a2).f0 a3).f4 (rd_T87 (rd_T85 l0_2 a2).f0 a3).f5 (rd_T87 (rd_T85 l0_2 a2).f0 a3).f6 (rd_T87 (rd_T85 l0_2 a2).f0 a3).f7).bind fun tg =>
  if 0 ≤ tg then if tg < (l1.length : Int) then if l4.length ≤ (l1.getD tg.toNat []).length then some (orTo l4.length (if g = true then l4 else List.replicate l4.length false) (l1.getD tg.toNat [])) else none else none else some (if g = true then l4 else List.replicate l4.length false)
 else none else none else none else none else none
set_option maxHeartbeats 8000000 in
set_option maxRecDepth 100000 in
theorem spec_l18Behind.calls (k : Nat) (a0_0 : Int) (A0_1 : Option Addr) (c0_1 : Nat) (l0_1 : List Int) (A0_2 : Option Addr) (c0_2 : Nat) (l0_2 : List (S85)) (A1 : Option Addr) (c1 : Nat) (l1 : List (List Bool)) (a2 : Int) (a3 : Int) (A4 : Option Addr) (c4 : Nat) (l4 : List Bool) (r : List Bool) (w : World) (hr0_1 : Kd.C (Kd.int .i64) w A0_1 l0_1.length l0_1) (hc0_1 : l0_1.length ≤ c0_1) (hr0_2 : Kd.C k85 w A0_2 l0_2.length l0_2) (hc0_2 : l0_2.length ≤ c0_2) (hr1 : Kd.C (Kd.slice 4 Kd.bool) w A1 l1.length l1) (hc1 : l1.length ≤ c1) (hr4 : Kd.C Kd.bool w A4 l4.length l4) (hc4 : l4.length ≤ c4) (h : spec_l18Behind.f k a0_0 l0_1 l0_2 l1 a2 a3 l4 = some r) :
 Calls Try.prog 157 #[.agg #[.int .i64 a0_0, .slice A0_1 l0_1.length c0_1, .slice A0_2 l0_2.length c0_2], .slice A1 l1.length c1, .int .i64 a2, .int .i64 a3, .slice A4 l4.length c4] w fun e w' => ∃ v0_ : Value, e = .returned (v0_) ∧ Kd.R Kd.bool 4 w' w.heap.size (fun _ => True) v0_ r ∧ Below w.heap.size w w' := by
 have hu1 := Try.underlying29
 have hu2 := Try.underlying87
 have hu3 := Try.underlying85
 have HR1 := Aside0.mk hr0_1
 have HR4 := Aside0.mk hr4
 have HRL := Aside0.mk hr1
 have HR2 := Aside0.mk hr0_2
 clear hr0_1 hr4 hr1 hr0_2
 unfold spec_l18Behind.f at h
 split at h
 case isFalse => cases h
 rename_i p2
 split at h
 case isFalse => cases h
 rename_i q2
 split at h
 case isFalse => cases h
 rename_i p3
 split at h
 case isFalse => cases h
 rename_i q3
 split at h
 case isFalse => cases h
 rename_i hn9
 obtain ⟨ad, A5, c5, e5, hx0, hl5, hi5⟩ := at_T85 HR2.out a2 p2 q2
 obtain ⟨is, his⟩ : ∃ is, is = (rd_T85 l0_2 a2).f0 := ⟨_, rfl⟩
 rw [← his] at h hx0 hl5 hi5 q3
 obtain ⟨ad7, A7, c7, e7, hy0, hy1, hy2, hy3, hy4, hy5, hy6, hy7, hl7, hi7⟩ := at_T87 hi5 a3 p3 q3
 obtain ⟨i, hi⟩ : ∃ i, i = rd_T87 is a3 := ⟨_, rfl⟩
 rw [← hi] at h hy0 hy1 hy2 hy3 hy4 hy5 hy6 hy7 hl7 hi7
 cases e5
 cases e7
 obtain ⟨g, hg, h⟩ := Option.bind_eq_some_iff.1 h
 obtain ⟨tg, htg, h⟩ := Option.bind_eq_some_iff.1 h
 obtain ⟨now, hnow⟩ : ∃ now, now = if g = true then l4 else List.replicate l4.length false := ⟨_, rfl⟩
 rw [← hnow] at h
 have hnl : now.length = l4.length := by rw [hnow]; split <;> simp
 have H := Aside0.mk h
 have HG := Aside0.mk hg
 have HTO := Aside0.mk htg
 have HNOW := Aside0.mk hnow
 have HNL := Aside0.mk hnl
 have HI7 := Aside0.mk hi7
 have HR5 := Aside0.mk hi5
 clear h hg htg hnow hnl hi7 hi5 his hi
 have BX := Aside0.mk (blk_new w (.cells #[.int .i64 a0_0, .slice A0_1 l0_1.length c0_1, .slice (some ad) l0_2.length c0_2] 29 (0, 0)))
 have b0 := (blk_cell BX.out 0).trans rfl
 have b1 := (blk_cell BX.out 1).trans rfl
 have b2 := (blk_cell BX.out 2).trans rfl
 have hbA := Aside0.mk (below_alloc (Below.refl w.heap.size w) (.cells #[.int .i64 a0_0, .slice A0_1 l0_1.length c0_1, .slice (some ad) l0_2.length c0_2] 29 (0, 0)))
 replace hx0 := (hbA.out.cell (World.block_lt_of_cell? w _ hx0)).trans hx0
 replace hy0 := (hbA.out.cell (World.block_lt_of_cell? w _ hy0)).trans hy0
 replace hy1 := (hbA.out.cell (World.block_lt_of_cell? w _ hy1)).trans hy1
 replace hy2 := (hbA.out.cell (World.block_lt_of_cell? w _ hy2)).trans hy2
 replace hy3 := (hbA.out.cell (World.block_lt_of_cell? w _ hy3)).trans hy3
 replace hy4 := (hbA.out.cell (World.block_lt_of_cell? w _ hy4)).trans hy4
 replace hy5 := (hbA.out.cell (World.block_lt_of_cell? w _ hy5)).trans hy5
 replace hy6 := (hbA.out.cell (World.block_lt_of_cell? w _ hy6)).trans hy6
 replace hy7 := (hbA.out.cell (World.block_lt_of_cell? w _ hy7)).trans hy7
 have e1 : (w.alloc (.cells #[.int .i64 a0_0, .slice A0_1 l0_1.length c0_1, .slice (some ad) l0_2.length c0_2] 29 (0, 0))).heap.size = w.heap.size + 1 := by simp
 have IX := Aside0.mk (blk_new (w.alloc (.cells #[.int .i64 a0_0, .slice A0_1 l0_1.length c0_1, .slice (some ad) l0_2.length c0_2] 29 (0, 0))) (.cells #[.int .i64 i.f0, .int .i64 i.f1, .int .i64 i.f2, .int .i64 i.f3, .int .i64 i.f4, .int .i64 i.f5, .string i.f6, .slice A7 i.f7.length c7] 87 (0, 0)))
 have BX2 := Aside0.mk (blk_alloc BX.out (.cells #[.int .i64 i.f0, .int .i64 i.f1, .int .i64 i.f2, .int .i64 i.f3, .int .i64 i.f4, .int .i64 i.f5, .string i.f6, .slice A7 i.f7.length c7] 87 (0, 0)))
 have hb2 := Aside0.mk (below_alloc hbA.out (.cells #[.int .i64 i.f0, .int .i64 i.f1, .int .i64 i.f2, .int .i64 i.f3, .int .i64 i.f4, .int .i64 i.f5, .string i.f6, .slice A7 i.f7.length c7] 87 (0, 0)))
 rw [e1] at IX
 have E1 := Aside0.mk e1
 clear e1
 go_enter Try.func157, Try.ntmps157
 go_upto_if 30 with (first | ((with_reducible refine gate_dst (N := 28) rfl ?_); refine Kd.R_make Kd.bool (w0 := ((w.alloc (.cells #[.int .i64 a0_0, .slice A0_1 l0_1.length c0_1, .slice (some ad) l0_2.length c0_2] 29 (0, 0))).alloc (.cells #[.int .i64 i.f0, .int .i64 i.f1, .int .i64 i.f2, .int .i64 i.f3, .int .i64 i.f4, .int .i64 i.f5, .string i.f6, .slice A7 i.f7.length c7] 87 (0, 0)))) ((w.alloc (.cells #[.int .i64 a0_0, .slice A0_1 l0_1.length c0_1, .slice (some ad) l0_2.length c0_2] 29 (0, 0))).alloc (.cells #[.int .i64 i.f0, .int .i64 i.f1, .int .i64 i.f2, .int .i64 i.f3, .int .i64 i.f4, .int .i64 i.f5, .string i.f6, .slice A7 i.f7.length c7] 87 (0, 0))).heap.size 4 rfl (N := 28) rfl 97 _ _ rfl (l4.length : Int) rfl rfl Try.underlying97 (.bool false) 1 info4 rfl (by decide) (by omega) false (ok := fun _ => True) (okp := fun _ => True) rfl (fun _ hk => hk) trivial (by omega) (by omega) (Below.refl _ _) (Nat.le_refl _) ?_; intro v3 w3 ho3 hb3 hg3 hnew3; rw [Int.toNat_natCast] at ho3; obtain ⟨A9, c9, e9⟩ := Kd.R_slice ho3; subst e9; rw [List.length_replicate] at ho3; have HO3 := Aside0.mk ho3; have HB3 := Aside0.mk hb3; have IX3 := Aside0.mk (blk_below IX.out hb3); clear ho3 hb3 hg3 hnew3; have z0 := (blk_cell IX3.out 0).trans rfl; have z1 := (blk_cell IX3.out 1).trans rfl; have z2 := (blk_cell IX3.out 2).trans rfl; have z3 := (blk_cell IX3.out 3).trans rfl; have z4 := (blk_cell IX3.out 4).trans rfl; have z5 := (blk_cell IX3.out 5).trans rfl; have z6 := (blk_cell IX3.out 6).trans rfl; have z7 := (blk_cell IX3.out 7).trans rfl) | (go_at_call 127; refine (spec_l18Goes.calls i.f0 i.f1 i.f2 i.f3 i.f4 i.f5 i.f6 A7 c7 i.f7 g _ (Kd.C_below HI7.out (by exact (below_step hb2.out HB3.out))) hl7 HG.out).mono ?_; rintro e w4 ⟨rfl, hb4⟩; have HB4 := Aside0.mk (below_step HB3.out hb4); have HO4 := Aside0.mk (Kd.R_below HO3.out hb4); clear hb4 z0 z1 z2 z3 z4 z5 z6 z7))
 go_cut [] (fun wc => Aside0 (Kd.R Kd.bool 4 wc ((w.alloc (.cells #[.int .i64 a0_0, .slice A0_1 l0_1.length c0_1, .slice (some ad) l0_2.length c0_2] 29 (0, 0))).alloc (.cells #[.int .i64 i.f0, .int .i64 i.f1, .int .i64 i.f2, .int .i64 i.f3, .int .i64 i.f4, .int .i64 i.f5, .string i.f6, .slice A7 i.f7.length c7] 87 (0, 0))).heap.size (fun _ => True) (.slice A9 l4.length c9) now) ∧ Aside0 (Below ((w.alloc (.cells #[.int .i64 a0_0, .slice A0_1 l0_1.length c0_1, .slice (some ad) l0_2.length c0_2] 29 (0, 0))).alloc (.cells #[.int .i64 i.f0, .int .i64 i.f1, .int .i64 i.f2, .int .i64 i.f3, .int .i64 i.f4, .int .i64 i.f5, .string i.f6, .slice A7 i.f7.length c7] 87 (0, 0))).heap.size ((w.alloc (.cells #[.int .i64 a0_0, .slice A0_1 l0_1.length c0_1, .slice (some ad) l0_2.length c0_2] 29 (0, 0))).alloc (.cells #[.int .i64 i.f0, .int .i64 i.f1, .int .i64 i.f2, .int .i64 i.f3, .int .i64 i.f4, .int .i64 i.f5, .string i.f6, .slice A7 i.f7.length c7] 87 (0, 0))) wc))
 case first =>
  cases g with
  | true =>
   have hn2 : now = l4 := HNOW.out
   go_wp2_with (first | (refine wpList_copy_R rfl _ _ 97 97 rfl 4 Try.underlying97 (by kernel_rfl) A9 A4 l4.length c9 c4 rfl rfl ((w.alloc (.cells #[.int .i64 a0_0, .slice A0_1 l0_1.length c0_1, .slice (some ad) l0_2.length c0_2] 29 (0, 0))).alloc (.cells #[.int .i64 i.f0, .int .i64 i.f1, .int .i64 i.f2, .int .i64 i.f3, .int .i64 i.f4, .int .i64 i.f5, .string i.f6, .slice A7 i.f7.length c7] 87 (0, 0))).heap.size (fun _ => True) (List.replicate l4.length false) l4 HO4.out (by simp) rfl (Kd.C_below HR4.out (below_step hb2.out HB4.out)) ((w.alloc (.cells #[.int .i64 a0_0, .slice A0_1 l0_1.length c0_1, .slice (some ad) l0_2.length c0_2] 29 (0, 0))).alloc (.cells #[.int .i64 i.f0, .int .i64 i.f1, .int .i64 i.f2, .int .i64 i.f3, .int .i64 i.f4, .int .i64 i.f5, .string i.f6, .slice A7 i.f7.length c7] 87 (0, 0))) HB4.out ?_; intro w5 ho5 hb5; have HO5 := Aside0.mk ho5; have HB5 := Aside0.mk hb5; clear ho5 hb5))
   go_meet
   case rel => exact ⟨⟨by rw [hn2]; exact HO5.out⟩, HB5⟩
  | false =>
   have hn2 : now = List.replicate l4.length false := HNOW.out
   go_wp2
   go_meet
   case rel => exact ⟨⟨by rw [hn2]; exact HO4.out⟩, HB4⟩
 case rest =>
  clear HB3 HO3 IX3 HB4 HO4 b0 b1 b2
  obtain ⟨HO, HB⟩ := hcut
  have BX3 := Aside0.mk (blk_below BX2.out HB.out)
  have IX3 := Aside0.mk (blk_below IX.out HB.out)
  have b0 := (blk_cell BX3.out 0).trans rfl
  have b1 := (blk_cell BX3.out 1).trans rfl
  have b2 := (blk_cell BX3.out 2).trans rfl
  have z0 := (blk_cell IX3.out 0).trans rfl
  have z1 := (blk_cell IX3.out 1).trans rfl
  have z2 := (blk_cell IX3.out 2).trans rfl
  have z3 := (blk_cell IX3.out 3).trans rfl
  have z4 := (blk_cell IX3.out 4).trans rfl
  have z5 := (blk_cell IX3.out 5).trans rfl
  have z6 := (blk_cell IX3.out 6).trans rfl
  have z7 := (blk_cell IX3.out 7).trans rfl
  go_wp2_with (first | (go_at_call 128; refine (spec_l18Jumps.calls a0_0 A0_1 c0_1 l0_1 (some ad) c0_2 l0_2 i.f0 i.f1 i.f2 i.f3 i.f4 i.f5 i.f6 A7 c7 i.f7 tg _ (Kd.C_below HR1.out (by exact (below_step hb2.out HB.out))) hc0_1 (Kd.C_below HR2.out (by exact (below_step hb2.out HB.out))) hc0_2 (Kd.C_below HI7.out (by exact (below_step hb2.out HB.out))) hl7 HTO.out).mono ?_; rintro e w6 ⟨rfl, hb6⟩; have HB6 := Aside0.mk (below_step HB.out hb6); have HO6 := Aside0.mk (Kd.R_below HO.out hb6); clear hb6 b0 b1 b2 z0 z1 z2 z3 z4 z5 z6 z7))
  by_cases c8 : 0 ≤ tg
  · have h := H.out
    rw [if_pos c8] at h
    split at h
    case isFalse => cases h
    rename_i q8
    split at h
    case isFalse => cases h
    rename_i q9
    obtain ⟨lv, hlv⟩ : ∃ lv, lv = l1.getD tg.toNat [] := ⟨_, rfl⟩
    rw [← hlv] at h q9
    obtain ⟨adl, cl, el, _, hKl, hcl⟩ := Kd.C_get HRL.out ([] : List Bool) tg c8 q8
    rw [← hlv] at hKl
    obtain ⟨A10, c10, rfl, hl10, hC10⟩ := hKl
    cases el
    have hx10 := hcl 0 _ rfl
    change w.cell? (adl.add (tg.toNat * 1 + 0)) = _ at hx10
    rw [Nat.mul_one, Nat.add_zero] at hx10
    have HX10 := Aside0.mk hx10
    have HC10 := Aside0.mk hC10
    have H2 := Aside0.mk (Option.some.inj h)
    have HCL := Aside0.mk hlv
    have c8b : decide (0 ≤ tg) = true := decide_eq_true c8
    clear h hx10 hC10 hcl hlv
    have HO7 := Aside0.mk (show Kd.R Kd.bool 4 w6 ((w.alloc (.cells #[.int .i64 a0_0, .slice A0_1 l0_1.length c0_1, .slice (some ad) l0_2.length c0_2] 29 (0, 0))).alloc (.cells #[.int .i64 i.f0, .int .i64 i.f1, .int .i64 i.f2, .int .i64 i.f3, .int .i64 i.f4, .int .i64 i.f5, .string i.f6, .slice A7 i.f7.length c7] 87 (0, 0))).heap.size (fun _ => True) (.slice A9 l4.length c9) (orTo 0 now lv) from by rw [orTo_zero]; exact HO6.out)
    go_wp2
    go_loopw [15] (fun v wr => ∃ (m : Nat), m ≤ l4.length ∧ v = .int .i64 (m : Int) ∧ Aside0 (Kd.R Kd.bool 4 wr ((w.alloc (.cells #[.int .i64 a0_0, .slice A0_1 l0_1.length c0_1, .slice (some ad) l0_2.length c0_2] 29 (0, 0))).alloc (.cells #[.int .i64 i.f0, .int .i64 i.f1, .int .i64 i.f2, .int .i64 i.f3, .int .i64 i.f4, .int .i64 i.f5, .string i.f6, .slice A7 i.f7.length c7] 87 (0, 0))).heap.size (fun _ => True) (.slice A9 l4.length c9) (orTo m now lv)) ∧ Aside0 (Below ((w.alloc (.cells #[.int .i64 a0_0, .slice A0_1 l0_1.length c0_1, .slice (some ad) l0_2.length c0_2] 29 (0, 0))).alloc (.cells #[.int .i64 i.f0, .int .i64 i.f1, .int .i64 i.f2, .int .i64 i.f3, .int .i64 i.f4, .int .i64 i.f5, .string i.f6, .slice A7 i.f7.length c7] 87 (0, 0))).heap.size ((w.alloc (.cells #[.int .i64 a0_0, .slice A0_1 l0_1.length c0_1, .slice (some ad) l0_2.length c0_2] 29 (0, 0))).alloc (.cells #[.int .i64 i.f0, .int .i64 i.f1, .int .i64 i.f2, .int .i64 i.f3, .int .i64 i.f4, .int .i64 i.f5, .string i.f6, .slice A7 i.f7.length c7] 87 (0, 0))) wr)) (fun v _ => l4.length - (intOf v).toNat)
    case atStart => exact ⟨0, Nat.zero_le _, rfl, HO7, HB6⟩
    case round =>
     clear HO7 HB6 HO6 HO BX3 IX3 HB
     obtain ⟨m, hm, rfl, HO, HB⟩ := hrel
     have hol : (orTo m now lv).length = l4.length := (orTo_len m now lv).trans HNL.out
     by_cases hlm : m < l4.length
     · obtain ⟨g9, cap9, e9, hg9, _, _⟩ := Kd.R_form HO.out (by omega)
       injection e9 with e9 e10 e11
       subst e9
       obtain ⟨cn, zn⟩ := Kd.R_celln false HO.out (m : Int) (by omega) (by omega)
       obtain ⟨x, hx⟩ : ∃ x, x = (orTo m now lv).getD m false := ⟨_, rfl⟩
       have hrx : rdOf false (orTo m now lv) (m : Int) = x := by rw [hx]; simp [rdOf, List.getD_eq_getElem?_getD]
       rw [hrx, Int.toNat_natCast] at cn
       rw [Int.toNat_natCast] at zn
       have hsc : (orTo m now lv).set m (x || lv.getD m false) = orTo (m + 1) now lv := by rw [hx]; exact orTo_succ m now lv (by rw [HNL.out]; exact hlm)
       have HSC := Aside0.mk hsc
       have HOL := Aside0.mk hol
       have hwB := below_step hb2.out HB.out
       clear hx hrx hsc e10 e11 hol
       cases x with
       | true =>
        have hp := Kd.R_putn HO.out (m : Int) true
        rw [Int.toNat_natCast, show (orTo m now lv).set m true = orTo (m + 1) now lv from by rw [← HSC.out]; simp] at hp
        have HP := Aside0.mk hp
        clear hp
        have HB9 := Aside0.mk (HB.out.setCell (p := ⟨g9, m, none⟩) hg9 (.bool true))
        clear hwB
        go_wp2
        go_roundw
        case measure => simp [intOf]; omega
        case rel => exact ⟨m + 1, by omega, by go_num, HP, HB9⟩
       | false =>
        obtain ⟨ad11, cl11, el11, _, hK11, hc11⟩ := Kd.C_get HC10.out false (m : Int) (by omega) (by omega)
        rw [Int.toNat_natCast] at hK11 hc11
        obtain ⟨y, hy⟩ : ∃ y, y = lv.getD m false := ⟨_, rfl⟩
        rw [← hy] at hK11
        have hK12 : cl11 = [Value.bool y] := hK11
        subst hK12
        have hx11 := hc11 0 _ rfl
        change w.cell? (ad11.add (m * 1 + 0)) = _ at hx11
        rw [Nat.mul_one, Nat.add_zero] at hx11
        have hx12 := (hwB.cell (World.block_lt_of_cell? w _ hx11)).trans hx11
        have hx13 := (hwB.cell (World.block_lt_of_cell? w _ HX10.out)).trans HX10.out
        have hq11 : (m : Int) < (lv.length : Int) := by omega
        have hp := Kd.R_putn HO.out (m : Int) y
        rw [Int.toNat_natCast, show (orTo m now lv).set m y = orTo (m + 1) now lv from by rw [← HSC.out, hy]; simp] at hp
        have HP := Aside0.mk hp
        clear hp
        have HB9 := Aside0.mk (HB.out.setCell (p := ⟨g9, m, none⟩) hg9 (.bool y))
        have HY := Aside0.mk hy
        subst el11
        clear hK11 hc11 hx11 hwB hy
        go_wp2
        go_roundw
        case measure => simp [intOf]; omega
        case rel => exact ⟨m + 1, by omega, by go_num, HP, HB9⟩
     · have hme : m = l4.length := by omega
       subst hme
       go_wp2
       go_ret
       exact ⟨_, rfl, by rw [← H2.out]; exact Kd.R_lower HO.out hb2.out.size, below_step hb2.out HB.out⟩
  · have h := H.out
    rw [if_neg c8] at h
    obtain rfl := Option.some.inj h
    have c8b : decide (0 ≤ tg) = false := decide_eq_false c8
    refine wp_loop_rounds 1 ?_
    rw [rounds_succ]
    go_wp2
    all_goals (go_ret; exact ⟨_, rfl, Kd.R_lower HO6.out hb2.out.size, below_step hb2.out HB6.out⟩)

set_option linter.unusedVariables false
set_option linter.unusedSimpArgs false

def spec_l18Block.l0 : Nat → List (List Bool) → Int → List Bool → Int → Int → List Int → List (S85) → Option (List Bool)
 | 0, _, _, _, _, _, _, _ => none
 | k + 1, x1, x2, x9, x10, x250000, x250001, x250002 => if x10 ≥ 0 then (if 0 ≤ x2 then (if x2 < (x250002.length : Int) then (if 0 ≤ x10 then (if x10 < (((rd_T85 x250002 x2).f0).length : Int) then ((spec_l18Behind.f k x250000 x250001 x250002 x1 x2 x10 x9).bind fun t256 => ((spec_l18Ahead.f k ((rd_T87 ((rd_T85 x250002 x2).f0) x10).f0) ((rd_T87 ((rd_T85 x250002 x2).f0) x10).f1) ((rd_T87 ((rd_T85 x250002 x2).f0) x10).f2) ((rd_T87 ((rd_T85 x250002 x2).f0) x10).f3) ((rd_T87 ((rd_T85 x250002 x2).f0) x10).f4) ((rd_T87 ((rd_T85 x250002 x2).f0) x10).f5) ((rd_T87 ((rd_T85 x250002 x2).f0) x10).f6) ((rd_T87 ((rd_T85 x250002 x2).f0) x10).f7) t256).bind fun t259 => (spec_l18Block.l0 k x1 x2 t259 (wrap64 (x10 - 1)) x250000 x250001 x250002))) else (none)) else (none)) else (none)) else (none)) else (some x9)
def spec_l18Block.f (k : Nat) (a0_0 : Int) (l0_1 : List Int) (l0_2 : List (S85)) (l1 : List (List Bool)) (a2 : Int) (a3 : Int) : Option (List Bool) := if 0 ≤ a3 then (if (a3 : Int).toNat ≤ 281474976710656 then (if 0 ≤ a2 then (if a2 < (l0_2.length : Int) then (spec_l18Block.l0 k l1 a2 (List.replicate (a3 : Int).toNat false) (wrap64 ((((rd_T85 l0_2 a2).f0).length : Int) - 1)) a0_0 l0_1 l0_2) else (none)) else (none)) else (none)) else (none)
def spec_l18Block.T5 : Bool × List (List Nat × List Nat) := (true, [([], []), ([0], [0]), ([], []), ([1, 2], [1, 2]), ([3], [3]), ([4], [4]), ([], []), ([5, 6], [5, 6]), ([7], [7]), ([], []), ([], []), ([], []), ([], []), ([], []), ([9, 10, 11, 12, 13], [9, 10, 11, 12, 13]), ([8, 14, 14], [8, 14]), ([15, 15, 0, 1, 2, 3, 4, 5, 6, 7, 8, 9, 10, 11, 12, 13, 14, 15], [13, 15])])
def spec_l18Block.B5 : List Nat := [0, 1, 0, 7, 15, 31, 0, 127, 255, 0, 0, 0, 0, 0, 15872, 32767, 65535]
theorem spec_l18Block.tab5 : rtab .any (opsOf Try.f122 5) = spec_l18Block.T5 := by kernel_rfl
theorem spec_l18Block.bits5 : waitsOk spec_l18Block.T5.2 spec_l18Block.B5 = true := by kernel_rfl
set_option maxHeartbeats 8000000 in
set_option maxRecDepth 100000 in
theorem spec_l18Block.calls (k : Nat) (a0_0 : Int) (A0_1 : Option Addr) (c0_1 : Nat) (l0_1 : List Int) (A0_2 : Option Addr) (c0_2 : Nat) (l0_2 : List (S85)) (A1 : Option Addr) (c1 : Nat) (l1 : List (List Bool)) (a2 : Int) (a3 : Int) (r : List Bool) (w : World) (hr0_1 : Kd.C (Kd.int .i64) w A0_1 l0_1.length l0_1) (hc0_1 : l0_1.length ≤ c0_1) (hr0_2 : Kd.C k85 w A0_2 l0_2.length l0_2) (hc0_2 : l0_2.length ≤ c0_2) (hr1 : Kd.C (Kd.slice 4 Kd.bool) w A1 l1.length l1) (hc1 : l1.length ≤ c1) (h : spec_l18Block.f k a0_0 l0_1 l0_2 l1 a2 a3 = some r) :
 Calls Try.prog 122 #[.agg #[.int .i64 a0_0, .slice A0_1 l0_1.length c0_1, .slice A0_2 l0_2.length c0_2], .slice A1 l1.length c1, .int .i64 a2, .int .i64 a3] w fun e w' => ∃ v0_ : Value, e = .returned (v0_) ∧ Kd.R Kd.bool 4 w' w.heap.size (fun _ => True) v0_ r ∧ Below w.heap.size w w' := by
 have hu29 := Try.underlying29
 have hu87 := Try.underlying87
 have HR0_1 := Aside0.mk hr0_1
 have HC0_1 := Aside0.mk hc0_1
 clear hr0_1 hc0_1
 have HR0_2 := Aside0.mk hr0_2
 have HC0_2 := Aside0.mk hc0_2
 clear hr0_2 hc0_2
 have HR1 := Aside0.mk hr1
 have HC1 := Aside0.mk hc1
 clear hr1 hc1
 have HB := Aside0.mk (Below.refl w.heap.size w)
 have H : (if 0 ≤ a3 then (if (a3 : Int).toNat ≤ 281474976710656 then (if 0 ≤ a2 then (if a2 < (l0_2.length : Int) then (spec_l18Block.l0 k l1 a2 (List.replicate (a3 : Int).toNat false) (wrap64 ((((rd_T85 l0_2 a2).f0).length : Int) - 1)) a0_0 l0_1 l0_2) else (none)) else (none)) else (none)) else (none)) = some r := h
 clear h
 by_cases c5 : 0 ≤ a3
 · rw [if_pos c5] at H
   have c5b0 := eq_true c5
   have c5b1 : decide (0 ≤ a3) = true := decide_eq_true c5
   clear c5
   by_cases c6 : (a3 : Int).toNat ≤ 281474976710656
   · rw [if_pos c6] at H
     have c6b0 := eq_true c6
     have c6b1 : decide ((a3 : Int).toNat ≤ 281474976710656) = true := decide_eq_true c6
     clear c6
     obtain ⟨y250, hy250⟩ : ∃ y_ : List Bool, y_ = (List.replicate (a3 : Int).toNat false) := ⟨_, rfl⟩
     replace H : (if 0 ≤ a2 then (if a2 < (l0_2.length : Int) then (spec_l18Block.l0 k l1 a2 y250 (wrap64 ((((rd_T85 l0_2 a2).f0).length : Int) - 1)) a0_0 l0_1 l0_2) else (none)) else (none)) = some r := by first | (rw [hy250]; with_reducible exact H) | (have H2_ := (Option.bind_some _ _).symm.trans H; rw [hy250]; with_reducible exact H2_) | (have H2_ := (Option.bind_some _ _).symm.trans H; with_reducible exact H2_) | with_reducible exact H | (rw [hy250]; exact H) | exact H
     have Ny250 := Aside0.mk hy250
     clear hy250
     by_cases c7 : 0 ≤ a2
     · rw [if_pos c7] at H
       have c7b0 : decide (0 ≤ a2) = true := decide_eq_true c7
       clear c7
       by_cases c8 : a2 < (l0_2.length : Int)
       · rw [if_pos c8] at H
         have c8b0 : decide (a2 < (l0_2.length : Int)) = true := decide_eq_true c8
         clear c8
         have H' := Aside0.mk H
         clear H
         go_enter Try.func122, Try.ntmps122
         go_wp2_with (first | ((with_reducible refine gate_dst (N := 4) rfl ?_); refine box_event ?hg (N := 4) ?hd (cs := #[.int .i64 a0_0, .slice A0_1 l0_1.length c0_1, .slice A0_2 l0_2.length c0_2]) (t := 29) ?hr ?_; (case hd => rfl); (case hg => rfl); (case hr => first | (go_simp; done) | (go_simp; rfl)); intro gb249 hg w9 hbox hb; have n0_ := Aside0.mk (below_step bz hb); have n1_ := Aside0.mk (hbox); have n2_ := Aside0.mk ((by rw [hg]; exact (below_size bz) : w.heap.size ≤ gb249)); have n3_ := Aside0.mk ((by rw [hg]; exact (below_size bz) : w.heap.size ≤ gb249)); clear HB; have HB := n0_; have BK249 := n1_; have GW249 := n2_; have GE249 := n3_; clear n0_ n1_ n2_ n3_; clear hb hbox hg) | ((with_reducible refine gate_dst (N := 12) rfl ?_); refine Kd.R_make Kd.bool _ 4 rfl (N := 12) rfl 97 _ _ rfl a3 rfl rfl Try.underlying97 (.bool false) 1 info4 rfl (by decide) (by omega) false (ok := fun _ => True) (okp := fun _ => True) rfl (fun _ hk => hk) trivial (of_decide_eq_true az) (Nat.le_trans (Nat.mul_le_mul_right _ (of_decide_eq_true az : a3.toNat ≤ 281474976710656)) (by omega)) (Below.refl _ _) (Nat.le_refl _) ?_; intro v251 w10 ho11 hb hg_ hnew_; clear hg_ hnew_; (first | rw [← Ny250.out] at ho11 | (simp only [Int.reduceToNat] at ho11; rw [← Ny250.out] at ho11)); have n0_ := Aside0.mk (Kd.R_lower ho11 (below_size bz)); have n1_ := Aside0.mk (blk_below (g := gb249) (o := .cells #[.int .i64 a0_0, .slice A0_1 l0_1.length c0_1, .slice A0_2 l0_2.length c0_2] 29 (0, 0)) kz hb); have n2_ := Aside0.mk (below_step bz hb); clear BK249; clear HB; have HO252 := n0_; have BK249 := n1_; have HB := n2_; clear n0_ n1_ n2_; clear hb ho11; have hcz12_0 : w10.cell? ⟨gb249, 0, none⟩ = some (.int .i64 a0_0) := (blk_cell BK249.out 0).trans rfl; have hcz12_1 : w10.cell? ⟨gb249, 1, none⟩ = some (.slice A0_1 l0_1.length c0_1) := (blk_cell BK249.out 1).trans rfl; have hcz12_2 : w10.cell? ⟨gb249, 2, none⟩ = some (.slice A0_2 l0_2.length c0_2) := (blk_cell BK249.out 2).trans rfl; have hfz12_0 := blk_frozen BK249.out 0; have hfz12_1 := blk_frozen BK249.out 1; have hfz12_2 := blk_frozen BK249.out 2; have p253 : 0 ≤ (a2 : Int) := of_decide_eq_true az; have q253 : a2 < (l0_2.length : Int) := of_decide_eq_true az; obtain ⟨ad253, A253_0, c253_0, e253, hx253_0, hl253_0, hi253_0⟩ := at_T85 HR0_2.out a2 p253 q253; cases e253; replace hx253_0 := (HB.out.cell (World.block_lt_of_cell? w _ hx253_0)).trans hx253_0; have HR253_0 := Aside0.mk hi253_0; have HC253_0 := Aside0.mk hl253_0; clear hi253_0 hl253_0; replace p253 := eq_true p253; replace q253 := eq_true q253))
         go_loopg [9, 10] k (fun kq v9 v10 w' => ∃ (x9_1 : List Bool) (x10_1 : Int), v10 = .int .i64 x10_1 ∧ Aside0 (spec_l18Block.l0 kq l1 a2 x9_1 x10_1 a0_0 l0_1 l0_2 = some r) ∧ Aside0 (kq ≤ k) ∧ Aside0 (Kd.R Kd.bool 4 w' w.heap.size (fun _ => True) v9 x9_1) ∧ Aside0 (w'.heap[gb249]? = some (.cells #[.int .i64 a0_0, (.slice A0_1 l0_1.length c0_1), (.slice (some ad253) l0_2.length c0_2)] 29 (0, 0))) ∧ Aside0 (Below w.heap.size w w'))
         case atStart => exact ⟨(y250), (wrap64 ((((rd_T85 l0_2 a2).f0).length : Int) - 1)), sz_, H', ⟨Nat.le_refl _⟩, ⟨by (with_reducible repeat (first | apply Kd.R_alloc | apply Kd.R_drewN | apply Kd.R_drew)); exact HO252.out⟩, ⟨ kz⟩, ⟨ bz⟩⟩
         case round =>
          clear H'
          try clear c1
          try clear c2
          try clear p2
          try clear q2
          try clear hx2
          try clear c5
          try clear c5b0
          try clear c5b1
          try clear c6
          try clear c6b0
          try clear c6b1
          try clear p6
          try clear c7
          try clear c7b0
          try clear c8
          try clear c8b0
          try clear c12
          try clear hcz12_0
          try clear hcz12_1
          try clear hcz12_2
          try clear hfz12_0
          try clear hfz12_1
          try clear hfz12_2
          try clear hx253_0
          try clear p253
          try clear q253
          obtain ⟨x9_1, x10_1, rfl, HA, HK1, HO_9, BK249, HB⟩ := hrel
          cases gk with
          | zero => exact absurd HA.out (by simp [spec_l18Block.l0])
          | succ k1 =>
           have H := HA.out
           clear HA
           simp only [spec_l18Block.l0] at H
           by_cases c13 : x10_1 ≥ 0
           · rw [if_pos c13] at H
             have c13b0 : decide (0 ≤ x10_1) = true := decide_eq_true c13
             clear c13
             by_cases c14 : 0 ≤ a2
             · rw [if_pos c14] at H
               have c14b0 : decide (0 ≤ a2) = true := decide_eq_true c14
               clear c14
               by_cases c15 : a2 < (l0_2.length : Int)
               · rw [if_pos c15] at H
                 have c15b0 : decide (a2 < (l0_2.length : Int)) = true := decide_eq_true c15
                 clear c15
                 by_cases c16 : 0 ≤ x10_1
                 · rw [if_pos c16] at H
                   have c16b0 : decide (0 ≤ x10_1) = true := decide_eq_true c16
                   clear c16
                   by_cases c17 : x10_1 < (((rd_T85 l0_2 a2).f0).length : Int)
                   · rw [if_pos c17] at H
                     have c17b0 : decide (x10_1 < (((rd_T85 l0_2 a2).f0).length : Int)) = true := decide_eq_true c17
                     clear c17
                     replace H := Option.bind_eq_some_iff.mp H
                     obtain ⟨t256, A180, H⟩ := H
                     replace H : ((spec_l18Ahead.f k1 ((rd_T87 ((rd_T85 l0_2 a2).f0) x10_1).f0) ((rd_T87 ((rd_T85 l0_2 a2).f0) x10_1).f1) ((rd_T87 ((rd_T85 l0_2 a2).f0) x10_1).f2) ((rd_T87 ((rd_T85 l0_2 a2).f0) x10_1).f3) ((rd_T87 ((rd_T85 l0_2 a2).f0) x10_1).f4) ((rd_T87 ((rd_T85 l0_2 a2).f0) x10_1).f5) ((rd_T87 ((rd_T85 l0_2 a2).f0) x10_1).f6) ((rd_T87 ((rd_T85 l0_2 a2).f0) x10_1).f7) t256).bind fun t259 => (spec_l18Block.l0 k1 l1 a2 t259 (wrap64 (x10_1 - 1)) a0_0 l0_1 l0_2)) = some r := H
                     have A18 := Aside0.mk A180
                     clear A180
                     replace H := Option.bind_eq_some_iff.mp H
                     obtain ⟨t259, A190, H⟩ := H
                     replace H : (spec_l18Block.l0 k1 l1 a2 t259 (wrap64 (x10_1 - 1)) a0_0 l0_1 l0_2) = some r := H
                     have A19 := Aside0.mk A190
                     clear A190
                     have H' := Aside0.mk H
                     clear H
                     try go_wp2
                     have n0_ := Aside0.mk (Kd.R_drew HO_9.out)
                     have n1_ := Aside0.mk (blk_drew BK249.out)
                     have n2_ := Aside0.mk (below_drew1 HB.out)
                     clear HO_9
                     clear BK249
                     clear HB
                     have HO_9 := n0_
                     have BK249 := n1_
                     have HB := n2_
                     clear n0_ n1_ n2_
                     have p254 : 0 ≤ (a2 : Int) := of_decide_eq_true az
                     have q254 : a2 < (l0_2.length : Int) := of_decide_eq_true az
                     obtain ⟨ad254, A254_0, c254_0, e254, hx254_0, hl254_0, hi254_0⟩ := at_T85 HR0_2.out a2 p254 q254
                     have hw254_0 := hx254_0
                     obtain rfl : ad253 = ad254 := (by injection e254)
                     replace hx254_0 := ck HB hx254_0
                     have HR254_0 := Aside0.mk hi254_0
                     have HC254_0 := Aside0.mk hl254_0
                     clear hi254_0 hl254_0
                     replace p254 := eq_true p254
                     replace q254 := eq_true q254
                     have p255 : 0 ≤ (x10_1 : Int) := of_decide_eq_true az
                     have q255 : x10_1 < (((rd_T85 l0_2 a2).f0).length : Int) := of_decide_eq_true az
                     obtain ⟨ad255, A255_7, c255_7, e255, hx255_0, hx255_1, hx255_2, hx255_3, hx255_4, hx255_5, hx255_6, hx255_7, hl255_7, hi255_7⟩ := at_T87 HR254_0.out x10_1 p255 q255
                     have hw255_7 := hx255_7
                     have hw255_6 := hx255_6
                     have hw255_5 := hx255_5
                     have hw255_4 := hx255_4
                     have hw255_3 := hx255_3
                     have hw255_2 := hx255_2
                     have hw255_1 := hx255_1
                     have hw255_0 := hx255_0
                     cases e255
                     replace hx255_0 := ck HB hx255_0
                     replace hx255_1 := ck HB hx255_1
                     replace hx255_2 := ck HB hx255_2
                     replace hx255_3 := ck HB hx255_3
                     replace hx255_4 := ck HB hx255_4
                     replace hx255_5 := ck HB hx255_5
                     replace hx255_6 := ck HB hx255_6
                     replace hx255_7 := ck HB hx255_7
                     have HR255_7 := Aside0.mk hi255_7
                     have HC255_7 := Aside0.mk hl255_7
                     clear hi255_7 hl255_7
                     replace p255 := eq_true p255
                     replace q255 := eq_true q255
                     obtain ⟨Ao21, co21, eo21⟩ := Kd.R_slice HO_9.out
                     (first | subst eo21 | (injection eo21 with f1_ f2_ f3_; have f4_ := f1_.symm; have f5_ := f3_.symm; clear f1_ f2_ f3_; subst f4_; subst f5_))
                     refine start_ (n := 17) (S := fun w' => w'.cell? ⟨gb249, 0, none⟩ = some (.int .i64 a0_0) ∧ w'.cell? ⟨gb249, 1, none⟩ = some (.slice A0_1 l0_1.length c0_1) ∧ w'.cell? ⟨gb249, 2, none⟩ = some (.slice (some ad253) l0_2.length c0_2) ∧ w'.cell? (ad253.add (a2).toNat) = some (.slice (some ad255) ((rd_T85 l0_2 a2).f0).length c254_0) ∧ w'.cell? (ad255.add ((x10_1).toNat * 8)) = some (.int .i64 ((rd_T87 ((rd_T85 l0_2 a2).f0) x10_1).f0)) ∧ w'.cell? ⟨(ad255.add ((x10_1).toNat * 8)).block, (ad255.add ((x10_1).toNat * 8)).off + 1, none⟩ = some (.int .i64 ((rd_T87 ((rd_T85 l0_2 a2).f0) x10_1).f1)) ∧ w'.cell? ⟨(ad255.add ((x10_1).toNat * 8)).block, (ad255.add ((x10_1).toNat * 8)).off + 2, none⟩ = some (.int .i64 ((rd_T87 ((rd_T85 l0_2 a2).f0) x10_1).f2)) ∧ w'.cell? ⟨(ad255.add ((x10_1).toNat * 8)).block, (ad255.add ((x10_1).toNat * 8)).off + 3, none⟩ = some (.int .i64 ((rd_T87 ((rd_T85 l0_2 a2).f0) x10_1).f3)) ∧ w'.cell? ⟨(ad255.add ((x10_1).toNat * 8)).block, (ad255.add ((x10_1).toNat * 8)).off + 4, none⟩ = some (.int .i64 ((rd_T87 ((rd_T85 l0_2 a2).f0) x10_1).f4)) ∧ w'.cell? ⟨(ad255.add ((x10_1).toNat * 8)).block, (ad255.add ((x10_1).toNat * 8)).off + 5, none⟩ = some (.int .i64 ((rd_T87 ((rd_T85 l0_2 a2).f0) x10_1).f5)) ∧ w'.cell? ⟨(ad255.add ((x10_1).toNat * 8)).block, (ad255.add ((x10_1).toNat * 8)).off + 6, none⟩ = some (.string ((rd_T87 ((rd_T85 l0_2 a2).f0) x10_1).f6)) ∧ w'.cell? ⟨(ad255.add ((x10_1).toNat * 8)).block, (ad255.add ((x10_1).toNat * 8)).off + 7, none⟩ = some (.slice A255_7 ((rd_T87 ((rd_T85 l0_2 a2).f0) x10_1).f7).length c255_7)) (ds := []) #[false, false, false, false, false, false, false, false, false, false, false, false, false, false, false, false, false] (by kernel_rfl) rfl rfl ⟨(blk_cell BK249.out 0).trans rfl, (blk_cell BK249.out 1).trans rfl, (blk_cell BK249.out 2).trans rfl, (ck HB hw254_0), (ck HB hw255_0), (ck HB hw255_1), (ck HB hw255_2), (ck HB hw255_3), (ck HB hw255_4), (ck HB hw255_5), (ck HB hw255_6), (ck HB hw255_7)⟩ (fun hHeld => ?_); refine with_tabW spec_l18Block.tab5 spec_l18Block.bits5 (fun HT_ HW_ => ?_)
                     generalize wr.drew = w20 at HO_9 BK249 HB HR254_0 HR255_7 hx254_0 hx255_0 hx255_1 hx255_2 hx255_3 hx255_4 hx255_5 hx255_6 hx255_7 hHeld ⊢
                     refine pure_ (i := 0) (N := some 25) (v := ?_) (a' := ?_) #[true, false, false, false, false, false, false, false, false, false, false, false, false, false, false, false, false] rfl rfl (any_of HT_.out (by kernel_rfl)) (fun _ _ _ h => h) (Or.inl ⟨by rfl, ?_⟩) ?_ ?_
                     rotate_left
                     · intro w'
                       go_simp
                       with_reducible rfl
                     rotate_left
                     · simp only [Act.put, sx1, sx2, sx3, i64_w, i32_w]
                       rfl
                     refine pure_ (i := 2) (N := some 27) (v := ?_) (a' := ?_) #[true, false, true, false, false, false, false, false, false, false, false, false, false, false, false, false, false] rfl rfl (any_of HT_.out (by kernel_rfl)) (fun _ _ _ h => h) (Or.inl ⟨by rfl, ?_⟩) ?_ ?_
                     rotate_left
                     · intro w'
                       go_simp
                       with_reducible rfl
                     rotate_left
                     · simp only [Act.put, sx1, sx2, sx3, i64_w, i32_w]
                       rfl
                     refine pure_ (i := 6) (N := some 31) (v := ?_) (a' := ?_) #[true, false, true, false, false, false, true, false, false, false, false, false, false, false, false, false, false] rfl rfl (any_of HT_.out (by kernel_rfl)) (fun _ _ _ h => h) (Or.inl ⟨by rfl, ?_⟩) ?_ ?_
                     rotate_left
                     · intro w'
                       go_simp
                       with_reducible rfl
                     rotate_left
                     · simp only [Act.put, sx1, sx2, sx3, i64_w, i32_w]
                       rfl
                     refine pure_ (i := 10) (N := some 35) (v := ?_) (a' := ?_) #[true, false, true, false, false, false, true, false, false, false, true, false, false, false, false, false, false] rfl rfl (any_of HT_.out (by kernel_rfl)) (fun _ _ _ h => h) (Or.inl ⟨by rfl, ?_⟩) ?_ ?_
                     rotate_left
                     · intro w'
                       go_simp
                       with_reducible rfl
                     rotate_left
                     · simp only [Act.put, sx1, sx2, sx3, i64_w, i32_w]
                       rfl
                     refine pure_ (i := 11) (N := some 36) (v := ?_) (a' := ?_) #[true, false, true, false, false, false, true, false, false, false, true, true, false, false, false, false, false] rfl rfl (any_of HT_.out (by kernel_rfl)) (fun _ _ _ h => h) (Or.inl ⟨by rfl, ?_⟩) ?_ ?_
                     rotate_left
                     · intro w'
                       go_simp
                       with_reducible rfl
                     rotate_left
                     · simp only [Act.put, sx1, sx2, sx3, i64_w, i32_w]
                       rfl
                     refine pure_ (i := 12) (N := some 37) (v := ?_) (a' := ?_) #[true, false, true, false, false, false, true, false, false, false, true, true, true, false, false, false, false] rfl rfl (any_of HT_.out (by kernel_rfl)) (fun _ _ _ h => h) (Or.inl ⟨by rfl, ?_⟩) ?_ ?_
                     rotate_left
                     · intro w'
                       go_simp
                       with_reducible rfl
                     rotate_left
                     · simp only [Act.put, sx1, sx2, sx3, i64_w, i32_w]
                       rfl
                     refine pure_ (i := 13) (N := some 38) (v := ?_) (a' := ?_) #[true, false, true, false, false, false, true, false, false, false, true, true, true, true, false, false, false] rfl rfl (any_of HT_.out (by kernel_rfl)) (fun _ _ _ h => h) (Or.inl ⟨by rfl, ?_⟩) ?_ ?_
                     rotate_left
                     · intro w'
                       go_simp
                       with_reducible rfl
                     rotate_left
                     · simp only [Act.put, sx1, sx2, sx3, i64_w, i32_w]
                       rfl
                     refine take_ (i := 1) (N := some 26) (v := ?_) (a' := ?_) #[true, true, true, false, false, false, true, false, false, false, true, true, true, true, false, false, false] rfl rfl (take_ofW HT_.out HW_.out (by kernel_rfl)) (fun _ _ _ h => h) (Or.inl ⟨by rfl, ?_⟩) hHeld ?_ ?_
                     rotate_left
                     · rintro w' ⟨s0, s1, s2, s3, s4, s5, s6, s7, s8, s9, s10, s11⟩
                       go_simp
                       with_reducible rfl
                     rotate_left
                     · simp only [Act.put, sx1, sx2, sx3, i64_w, i32_w]
                       rfl
                     refine pure_ (i := 3) (N := some 28) (v := ?_) (a' := ?_) #[true, true, true, true, false, false, true, false, false, false, true, true, true, true, false, false, false] rfl rfl (any_of HT_.out (by kernel_rfl)) (fun _ _ _ h => h) (Or.inl ⟨by rfl, ?_⟩) ?_ ?_
                     rotate_left
                     · intro w'
                       go_simp
                       with_reducible rfl
                     rotate_left
                     · simp only [Act.put, sx1, sx2, sx3, i64_w, i32_w]
                       rfl
                     refine pure_ (i := 4) (N := some 29) (v := ?_) (a' := ?_) #[true, true, true, true, true, false, true, false, false, false, true, true, true, true, false, false, false] rfl rfl (any_of HT_.out (by kernel_rfl)) (fun _ _ _ h => h) (Or.inl ⟨by rfl, ?_⟩) ?_ ?_
                     rotate_left
                     · intro w'
                       go_simp
                       with_reducible rfl
                     rotate_left
                     · simp only [Act.put, sx1, sx2, sx3, i64_w, i32_w]
                       rfl
                     refine take_ (i := 5) (N := some 30) (v := ?_) (a' := ?_) #[true, true, true, true, true, true, true, false, false, false, true, true, true, true, false, false, false] rfl rfl (take_ofW HT_.out HW_.out (by kernel_rfl)) (fun _ _ _ h => h) (Or.inl ⟨by rfl, ?_⟩) hHeld ?_ ?_
                     rotate_left
                     · rintro w' ⟨s0, s1, s2, s3, s4, s5, s6, s7, s8, s9, s10, s11⟩
                       go_simp
                       with_reducible rfl
                     rotate_left
                     · simp only [Act.put, sx1, sx2, sx3, i64_w, i32_w]
                       rfl
                     refine pure_ (i := 7) (N := some 32) (v := ?_) (a' := ?_) #[true, true, true, true, true, true, true, true, false, false, true, true, true, true, false, false, false] rfl rfl (any_of HT_.out (by kernel_rfl)) (fun _ _ _ h => h) (Or.inl ⟨by rfl, ?_⟩) ?_ ?_
                     rotate_left
                     · intro w'
                       go_simp
                       with_reducible rfl
                     rotate_left
                     · simp only [Act.put, sx1, sx2, sx3, i64_w, i32_w]
                       rfl
                     refine take_ (i := 8) (N := some 33) (v := ?_) (a' := ?_) #[true, true, true, true, true, true, true, true, true, false, true, true, true, true, false, false, false] rfl rfl (take_ofW HT_.out HW_.out (by kernel_rfl)) (fun _ _ _ h => h) (Or.inl ⟨by rfl, ?_⟩) hHeld ?_ ?_
                     rotate_left
                     · rintro w' ⟨s0, s1, s2, s3, s4, s5, s6, s7, s8, s9, s10, s11⟩
                       go_simp
                       with_reducible rfl
                     rotate_left
                     · simp only [Act.put, sx1, sx2, sx3, i64_w, i32_w]
                       rfl
                     refine take_ (i := 9) (N := some 34) (v := ?_) (a' := ?_) #[true, true, true, true, true, true, true, true, true, true, true, true, true, true, false, false, false] rfl rfl (take_ofW HT_.out HW_.out (by kernel_rfl)) (fun _ _ _ h => h) (Or.inl ⟨by rfl, ?_⟩) hHeld ?_ ?_
                     rotate_left
                     · rintro w' ⟨s0, s1, s2, s3, s4, s5, s6, s7, s8, s9, s10, s11⟩
                       go_simp
                       with_reducible rfl
                     rotate_left
                     · simp only [Act.put, sx1, sx2, sx3, i64_w, i32_w]
                       rfl
                     refine one_ (i := 14) (N := some 39) #[true, true, true, true, true, true, true, true, true, true, true, true, true, true, true, false, false] rfl rfl (one_of HT_.out (by kernel_rfl)) (by decide) (fun K hK => ?_)
                     refine goes_ Try.func157 (by kernel_rfl) rfl #[.agg #[.int .i64 a0_0, .slice A0_1 l0_1.length c0_1, .slice (some ad253) l0_2.length c0_2], .slice A1 l1.length c1, .int .i64 a2, .int .i64 x10_1, .slice Ao21 x9_1.length co21] (by rfl) rfl rfl lz ?_
                     with_reducible refine (spec_l18Behind.calls k1 a0_0 _ _ l0_1 _ _ l0_2 _ _ l1 a2 x10_1 _ _ x9_1 t256 _ ?side1 ?side2 ?side3 ?side4 ?side5 ?side6 ?side7 ?side8 A18.out).mono ?_
                     (case side1 => exact cz HR0_1.out)
                     (case side2 => exact HC0_1.out)
                     (case side3 => exact cz HR0_2.out)
                     (case side4 => exact HC0_2.out)
                     (case side5 => exact cz HR1.out)
                     (case side6 => exact HC1.out)
                     (case side7 => repeat (first | exact (Kd.R_reads' HO_9.out).2.2 | (with_reducible refine Kd.C_alloc ?_ _) | (with_reducible refine Kd.C_drewN ?_ _) | (with_reducible refine Kd.C_drew ?_)))
                     (case side8 => exact (Kd.R_reads' HO_9.out).2.1)
                     rintro e w22 ⟨v257, rfl, ho0, hb⟩
                     refine ⟨_, rfl, ?_⟩
                     have n0_ := Aside0.mk (Kd.R_elder' (rz HO_9.out) (Kd.R_base ho0) hb)
                     have n1_ := Aside0.mk (Kd.R_lower (Kd.R_new' ho0 (Kd.R_lt (rz HO_9.out))) (below_size bz))
                     have n2_ := Aside0.mk (blk_below (g := gb249) (o := .cells #[.int .i64 a0_0, .slice A0_1 l0_1.length c0_1, .slice (some ad253) l0_2.length c0_2] 29 (0, 0)) kz hb)
                     have n3_ := Aside0.mk (below_step bz hb)
                     clear HO_9
                     clear BK249
                     clear HB
                     have HO_9 := n0_
                     have HO258 := n1_
                     have BK249 := n2_
                     have HB := n3_
                     clear n0_ n1_ n2_ n3_
                     (try clear hb)
                     (try clear hb2)
                     (try clear hk)
                     (try clear hi)
                     (try clear ho0)
                     obtain ⟨Ao23, co23, eo23⟩ := Kd.R_slice HO258.out
                     (first | subst eo23 | (injection eo23 with f1_ f2_ f3_; have f4_ := f1_.symm; have f5_ := f3_.symm; clear f1_ f2_ f3_; subst f4_; subst f5_))
                     refine hK.out _ _ ⟨(blk_cell BK249.out 0).trans rfl, (blk_cell BK249.out 1).trans rfl, (blk_cell BK249.out 2).trans rfl, (ck HB hw254_0), (ck HB hw255_0), (ck HB hw255_1), (ck HB hw255_2), (ck HB hw255_3), (ck HB hw255_4), (ck HB hw255_5), (ck HB hw255_6), (ck HB hw255_7)⟩ (fun hHeld => ?_)
                     clear hK K
                     refine norm_ (a' := ?_) ?_ ?_
                     rotate_left
                     · show Act.put _ (some 39) _ = _
                       simp only [Act.put, sx1, sx2, sx3, i64_w, i32_w]
                       rfl
                     refine one_ (i := 15) (N := some 40) #[true, true, true, true, true, true, true, true, true, true, true, true, true, true, true, true, false] rfl rfl (one_of HT_.out (by kernel_rfl)) (by decide) (fun K hK => ?_)
                     refine goes_ Try.func156 (by kernel_rfl) rfl #[.agg #[.int .i64 ((rd_T87 ((rd_T85 l0_2 a2).f0) x10_1).f0), .int .i64 ((rd_T87 ((rd_T85 l0_2 a2).f0) x10_1).f1), .int .i64 ((rd_T87 ((rd_T85 l0_2 a2).f0) x10_1).f2), .int .i64 ((rd_T87 ((rd_T85 l0_2 a2).f0) x10_1).f3), .int .i64 ((rd_T87 ((rd_T85 l0_2 a2).f0) x10_1).f4), .int .i64 ((rd_T87 ((rd_T85 l0_2 a2).f0) x10_1).f5), .string ((rd_T87 ((rd_T85 l0_2 a2).f0) x10_1).f6), .slice A255_7 ((rd_T87 ((rd_T85 l0_2 a2).f0) x10_1).f7).length c255_7], .slice Ao23 t256.length co23] (by rfl) rfl rfl lz ?_
                     with_reducible refine (spec_l18Ahead.calls k1 ((rd_T87 ((rd_T85 l0_2 a2).f0) x10_1).f0) ((rd_T87 ((rd_T85 l0_2 a2).f0) x10_1).f1) ((rd_T87 ((rd_T85 l0_2 a2).f0) x10_1).f2) ((rd_T87 ((rd_T85 l0_2 a2).f0) x10_1).f3) ((rd_T87 ((rd_T85 l0_2 a2).f0) x10_1).f4) ((rd_T87 ((rd_T85 l0_2 a2).f0) x10_1).f5) ((rd_T87 ((rd_T85 l0_2 a2).f0) x10_1).f6) _ _ ((rd_T87 ((rd_T85 l0_2 a2).f0) x10_1).f7) _ _ t256 t259 _ ?side1 ?side2 ?side3 ?side4 A19.out).mono ?_
                     (case side1 => exact cz HR255_7.out)
                     (case side2 => exact HC255_7.out)
                     (case side3 => repeat (first | exact (Kd.R_reads' HO258.out).2.2 | (with_reducible refine Kd.C_alloc ?_ _) | (with_reducible refine Kd.C_drewN ?_ _) | (with_reducible refine Kd.C_drew ?_)))
                     (case side4 => exact (Kd.R_reads' HO258.out).2.1)
                     rintro e w24 ⟨v260, rfl, ho0, hb⟩
                     refine ⟨_, rfl, ?_⟩
                     have n0_ := Aside0.mk (Kd.R_elder' (rz HO_9.out) (Kd.R_base ho0) hb)
                     have n1_ := Aside0.mk (Kd.R_elder' (rz HO258.out) (Kd.R_base ho0) hb)
                     have n2_ := Aside0.mk (Kd.R_lower (Kd.R_new' (Kd.R_new' ho0 (Kd.R_lt (rz HO_9.out))) (Kd.R_lt (rz HO258.out))) (below_size bz))
                     have n3_ := Aside0.mk (blk_below (g := gb249) (o := .cells #[.int .i64 a0_0, .slice A0_1 l0_1.length c0_1, .slice (some ad253) l0_2.length c0_2] 29 (0, 0)) kz hb)
                     have n4_ := Aside0.mk (below_step bz hb)
                     clear HO_9
                     clear HO258
                     clear BK249
                     clear HB
                     have HO_9 := n0_
                     have HO258 := n1_
                     have HO261 := n2_
                     have BK249 := n3_
                     have HB := n4_
                     clear n0_ n1_ n2_ n3_ n4_
                     (try clear hb)
                     (try clear hb2)
                     (try clear hk)
                     (try clear hi)
                     (try clear ho0)
                     refine hK.out _ _ ⟨(blk_cell BK249.out 0).trans rfl, (blk_cell BK249.out 1).trans rfl, (blk_cell BK249.out 2).trans rfl, (ck HB hw254_0), (ck HB hw255_0), (ck HB hw255_1), (ck HB hw255_2), (ck HB hw255_3), (ck HB hw255_4), (ck HB hw255_5), (ck HB hw255_6), (ck HB hw255_7)⟩ (fun hHeld => ?_)
                     clear hK K
                     refine norm_ (a' := ?_) ?_ ?_
                     rotate_left
                     · show Act.put _ (some 40) _ = _
                       simp only [Act.put, sx1, sx2, sx3, i64_w, i32_w]
                       rfl
                     refine pure_ (i := 16) (N := some 9) (v := ?_) (a' := ?_) #[true, true, true, true, true, true, true, true, true, true, true, true, true, true, true, true, true] rfl rfl (any_of HT_.out (by kernel_rfl)) (fun _ _ _ h => h) (Or.inl ⟨by rfl, ?_⟩) ?_ ?_
                     rotate_left
                     · intro w'
                       go_simp
                       with_reducible rfl
                     rotate_left
                     · simp only [Act.put, sx1, sx2, sx3, i64_w, i32_w]
                       rfl
                     refine done_ (done_of HT_.out (by kernel_rfl)) ?_
                     try go_wp2
                     go_roundg k1
                     case measure => have := HK1.out; omega
                     case rel => exact ⟨(t259), (wrap64 (x10_1 - 1)), sz_, H', ⟨by have := HK1.out; omega⟩, ⟨by (with_reducible repeat (first | apply Kd.R_alloc | apply Kd.R_drewN | apply Kd.R_drew)); exact Kd.R_mono HO261.out (fun _ hk => trivial)⟩, ⟨ kz⟩, ⟨ bz⟩⟩
                   · rw [if_neg c17] at H
                     exact absurd H (by simp)
                 · rw [if_neg c16] at H
                   exact absurd H (by simp)
               · rw [if_neg c15] at H
                 exact absurd H (by simp)
             · rw [if_neg c14] at H
               exact absurd H (by simp)
           · rw [if_neg c13] at H
             have c13b0 : decide (0 ≤ x10_1) = false := decide_eq_false c13
             clear c13
             obtain rfl := Option.some.inj H
             go_wp2
             go_ret
             exact ⟨_, by first | rfl | (simp [errW_none, errW_some] <;> rfl) | (simp [*, errW_none, errW_some] <;> rfl), by (with_reducible repeat (first | apply Kd.R_alloc | apply Kd.R_drewN | apply Kd.R_drew)); exact HO_9.out, bz⟩
       · rw [if_neg c8] at H
         exact absurd H (by simp)
     · rw [if_neg c7] at H
       exact absurd H (by simp)
   · rw [if_neg c6] at H
     exact absurd H (by simp)
 · rw [if_neg c5] at H
   exact absurd H (by simp)

end Go.Proofs.Ythegbhfoleiegaa.All

