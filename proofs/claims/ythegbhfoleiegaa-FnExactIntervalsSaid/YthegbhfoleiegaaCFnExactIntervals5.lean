/- Part 5 of the proof of FnExactIntervals: functions of the translation with what they return, and plain laws of these. Written by programs of this session over the kit's print, and by hand. -/
import Derived.Test.YthegbhfoleiegaaProg
import Derived.Test.YthegbhfoleiegaaCFnExactIntervalsWApart
import Derived.Test.YthegbhfoleiegaaCFnExactIntervalsWArr
import Derived.Test.YthegbhfoleiegaaCFnExactIntervalsWAt
import Derived.Test.YthegbhfoleiegaaCFnExactIntervalsWFoot
import Derived.Test.YthegbhfoleiegaaCFnExactIntervalsWFootNe
import Derived.Test.YthegbhfoleiegaaCFnExactIntervalsWGuard
import Derived.Test.YthegbhfoleiegaaCFnExactIntervalsWInv
import Derived.Test.YthegbhfoleiegaaCFnExactIntervalsWKept
import Derived.Test.YthegbhfoleiegaaCFnExactIntervalsWLast
import Derived.Test.YthegbhfoleiegaaCFnExactIntervalsWMore
import Derived.Test.YthegbhfoleiegaaCFnExactIntervalsWN
import Derived.Test.YthegbhfoleiegaaCFnExactIntervalsWNEv
import Derived.Test.YthegbhfoleiegaaCFnExactIntervalsWQPut
import Derived.Test.YthegbhfoleiegaaCFnExactIntervalsWRepsOne
import Derived.Test.YthegbhfoleiegaaCFnExactIntervalsWShare
import Derived.Test.YthegbhfoleiegaaCFnExactIntervalsWTab
import Derived.Test.YthegbhfoleiegaaCFnExactIntervalsWWords
import Derived.Test.YthegbhfoleiegaaCFnExactIntervalsWZeros
import Derived.Below
import Derived.Deep.Draws
import Derived.Deep.AppendLies
import Derived.Maps.AppendAt
import Derived.OwnWalk
import Derived.Laws.BytesArg
import Derived.Laws.MakeOwn
import Derived.Laws.OwnMore
import Derived.Deep.OwnRows
import Derived.Tactics
import Derived.Lib.ConvBytes
import Derived.Laws.Slices
import Derived.WalkKit
import Derived.KernelRfl
import Derived.RowKit3
import Derived.Deep.LoopGhost
import Derived.Deep.QuietTactic
import Derived.BigQuiet
import Derived.WideLaws
import Derived.Deep.DeepCutAuto
import Derived.Deep.CutBlock
import Derived.Deep.RegionHeld3
import Derived.Laws.Rows
import Derived.Lib.AppendStr
import Derived.ArgAppend
import Derived.Laws.IdiomCopy
import Derived.OrdersHeld
import Derived.Laws.BitsLemmas
import Derived.RowKit
import Derived.Laws.CopyOwn
import Derived.Maps.OwnSet
import Derived.Maps.OwnOps
import Derived.Maps.RangeWalk
import Derived.BigRegion
import Derived.Handy
import Derived.Shelf.GgSortFunc.Whole
import Derived.Shelf.GgSortFunc.Tiny
import Derived.Sort.OwnSortedInts
import Derived.Lib.RowBridge
import Derived.Lib.SortBridge
import Derived.Sort.LotA
import Derived.Deep.Slices
import Derived.ChangeArms
import Derived.ProofKit
import Derived.OpenShut
import Derived.ShutString
import Derived.ChangeOld
import Derived.SizedLaws
import Derived.Test.YthegbhfoleiegaaCFnExactIntervals1
import Derived.Test.YthegbhfoleiegaaCFnExactIntervals2
import Derived.Test.YthegbhfoleiegaaCFnExactIntervals3
import Derived.Test.YthegbhfoleiegaaCFnExactIntervals4
namespace Go.Proofs.Ythegbhfoleiegaa.All
open Go.RowKit Go.Proofs.YthegbhfoleiegaaW.PrintWords Go.Proofs.YthegbhfoleiegaaW.PrintLast Go.Proofs.YthegbhfoleiegaaW.PrintMore
attribute [local go_sem] max2_int min2_int max_two min_two max_three min_three max_four min_four   -- for this text's walks alone
set_option linter.unusedVariables false
set_option linter.unusedSimpArgs false

def laws_eqIntervalS.l0 : Nat → List (S113) → List (S113) → Int → Option (Bool)
 | 0, _, _, _ => none
 | k + 1, x0, x1, x5 => if x5 < (x0.length : Int) then (if 0 ≤ x5 then (if x5 < (x1.length : Int) then ((laws_eqInterval.f ((rd_T113 x0 x5).f0) ((rd_T113 x0 x5).f1) ((rd_T113 x0 x5).f2) ((rd_T113 x0 x5).f3) ((rd_T113 x1 x5).f0) ((rd_T113 x1 x5).f1) ((rd_T113 x1 x5).f2) ((rd_T113 x1 x5).f3)).bind fun t521 => (if t521 = true then (laws_eqIntervalS.l0 k x0 x1 (wrap64 (x5 + 1))) else (some false))) else (none)) else (none)) else (some true)
def laws_eqIntervalS.f (k : Nat) (l0 : List (S113)) (l1 : List (S113)) : Option (Bool) := if (l0.length : Int) = (l1.length : Int) then (laws_eqIntervalS.l0 k l0 l1 0) else (some false)
def laws_eqIntervalS.T6 : Bool × List (List Nat × List Nat) := (true, [([], []), ([], []), ([0, 1], [0, 1]), ([2], [2]), ([], []), ([], []), ([4, 5], [4, 5]), ([6], [6]), ([3, 7], [3, 7]), ([8], [8])])
def laws_eqIntervalS.B6 : List Nat := [0, 0, 3, 7, 0, 0, 48, 112, 255, 511]
theorem laws_eqIntervalS.tab6 : rtab .any (opsOf Try.f25 6) = laws_eqIntervalS.T6 := by kernel_rfl
theorem laws_eqIntervalS.bits6 : waitsOk laws_eqIntervalS.T6.2 laws_eqIntervalS.B6 = true := by kernel_rfl
set_option maxHeartbeats 8000000 in
set_option maxRecDepth 100000 in
theorem laws_eqIntervalS.calls (k : Nat) (A0 : Option Addr) (c0 : Nat) (l0 : List (S113)) (A1 : Option Addr) (c1 : Nat) (l1 : List (S113)) (r : Bool) (w : World) (hr0 : Kd.C k113 w A0 l0.length l0) (hc0 : l0.length ≤ c0) (hr1 : Kd.C k113 w A1 l1.length l1) (hc1 : l1.length ≤ c1) (h : laws_eqIntervalS.f k l0 l1 = some r) :
 Calls Try.prog 25 #[.slice A0 l0.length c0, .slice A1 l1.length c1] w fun e w' => e = .returned (.bool r) ∧ Below w.heap.size w w' := by
 have hu113 := Try.underlying113
 have HR0 := Aside0.mk hr0
 have HC0 := Aside0.mk hc0
 clear hr0 hc0
 have HR1 := Aside0.mk hr1
 have HC1 := Aside0.mk hc1
 clear hr1 hc1
 have HB := Aside0.mk (Below.refl w.heap.size w)
 have H : (if (l0.length : Int) = (l1.length : Int) then (laws_eqIntervalS.l0 k l0 l1 0) else (some false)) = some r := h
 clear h
 by_cases c3 : (l0.length : Int) = (l1.length : Int)
 · rw [if_pos c3] at H
   have c3b0 : ((l0.length : Int) == (l1.length : Int)) = true := beq_iff_eq.mpr c3
   have c3b1 : ((l0.length : Int) != (l1.length : Int)) = false := bne_eq_false_iff_eq.mpr c3
   have c3b2 : (l0.length == l1.length) = true := by first | simpa using c3 | (simp at c3 ⊢; omega)
   clear c3
   have H' := Aside0.mk H
   clear H
   go_enter Try.func25, Try.ntmps25
   go_wp2
   go_loopg [5] k (fun kq v5 w' => ∃ (x5_1 : Int), v5 = .int .i64 x5_1 ∧ Aside0 (laws_eqIntervalS.l0 kq l0 l1 x5_1 = some r) ∧ Aside0 (kq ≤ k) ∧ Aside0 (Below w.heap.size w w'))
   case atStart => exact ⟨(0), sz_, H', ⟨Nat.le_refl _⟩, ⟨ bz⟩⟩
   case round =>
    clear H'
    obtain ⟨x5_1, rfl, HA, HK1, HB⟩ := hrel
    cases gk with
    | zero => exact absurd HA.out (by simp [laws_eqIntervalS.l0])
    | succ k1 =>
     have H := HA.out
     clear HA
     simp only [laws_eqIntervalS.l0] at H
     by_cases c4 : x5_1 < (l0.length : Int)
     · rw [if_pos c4] at H
       have c4b0 : decide (x5_1 < (l0.length : Int)) = true := decide_eq_true c4
       clear c4
       by_cases c5 : 0 ≤ x5_1
       · rw [if_pos c5] at H
         have c5b0 : decide (0 ≤ x5_1) = true := decide_eq_true c5
         clear c5
         by_cases c6 : x5_1 < (l1.length : Int)
         · rw [if_pos c6] at H
           have c6b0 : decide (x5_1 < (l1.length : Int)) = true := decide_eq_true c6
           clear c6
           replace H := Option.bind_eq_some_iff.mp H
           obtain ⟨t521, A70, H⟩ := H
           replace H : (if t521 = true then (laws_eqIntervalS.l0 k1 l0 l1 (wrap64 (x5_1 + 1))) else (some false)) = some r := H
           have A7 := Aside0.mk A70
           clear A70
           by_cases c8 : t521 = true
           · subst c8
             have H1 : (laws_eqIntervalS.l0 k1 l0 l1 (wrap64 (x5_1 + 1))) = some r := by rw [if_pos rfl] at H; exact H
             clear H
             have H := H1
             clear H1
             have H' := Aside0.mk H
             clear H
             try go_wp2
             replace HB := Aside0.mk (below_drew1 HB.out)
             have p519 : 0 ≤ (x5_1 : Int) := of_decide_eq_true az
             have q519 : x5_1 < (l0.length : Int) := of_decide_eq_true az
             obtain ⟨ad519, e519, hx519_0, hx519_1, hx519_2, hx519_3⟩ := at_T113 HR0.out x5_1 p519 q519
             have hw519_3 := hx519_3
             have hw519_2 := hx519_2
             have hw519_1 := hx519_1
             have hw519_0 := hx519_0
             cases e519
             replace hx519_0 := ck HB hx519_0
             replace hx519_1 := ck HB hx519_1
             replace hx519_2 := ck HB hx519_2
             replace hx519_3 := ck HB hx519_3
             replace p519 := eq_true p519
             replace q519 := eq_true q519
             have p520 : 0 ≤ (x5_1 : Int) := of_decide_eq_true az
             have q520 : x5_1 < (l1.length : Int) := of_decide_eq_true az
             obtain ⟨ad520, e520, hx520_0, hx520_1, hx520_2, hx520_3⟩ := at_T113 HR1.out x5_1 p520 q520
             have hw520_3 := hx520_3
             have hw520_2 := hx520_2
             have hw520_1 := hx520_1
             have hw520_0 := hx520_0
             cases e520
             replace hx520_0 := ck HB hx520_0
             replace hx520_1 := ck HB hx520_1
             replace hx520_2 := ck HB hx520_2
             replace hx520_3 := ck HB hx520_3
             replace p520 := eq_true p520
             replace q520 := eq_true q520
             refine start_ (n := 10) (S := fun w' => w'.cell? (ad519.add ((x5_1).toNat * 4)) = some (.int .i64 ((rd_T113 l0 x5_1).f0)) ∧ w'.cell? ⟨(ad519.add ((x5_1).toNat * 4)).block, (ad519.add ((x5_1).toNat * 4)).off + 1, none⟩ = some (.int .i64 ((rd_T113 l0 x5_1).f1)) ∧ w'.cell? ⟨(ad519.add ((x5_1).toNat * 4)).block, (ad519.add ((x5_1).toNat * 4)).off + 2, none⟩ = some (.int .i64 ((rd_T113 l0 x5_1).f2)) ∧ w'.cell? ⟨(ad519.add ((x5_1).toNat * 4)).block, (ad519.add ((x5_1).toNat * 4)).off + 3, none⟩ = some (.bool ((rd_T113 l0 x5_1).f3)) ∧ w'.cell? (ad520.add ((x5_1).toNat * 4)) = some (.int .i64 ((rd_T113 l1 x5_1).f0)) ∧ w'.cell? ⟨(ad520.add ((x5_1).toNat * 4)).block, (ad520.add ((x5_1).toNat * 4)).off + 1, none⟩ = some (.int .i64 ((rd_T113 l1 x5_1).f1)) ∧ w'.cell? ⟨(ad520.add ((x5_1).toNat * 4)).block, (ad520.add ((x5_1).toNat * 4)).off + 2, none⟩ = some (.int .i64 ((rd_T113 l1 x5_1).f2)) ∧ w'.cell? ⟨(ad520.add ((x5_1).toNat * 4)).block, (ad520.add ((x5_1).toNat * 4)).off + 3, none⟩ = some (.bool ((rd_T113 l1 x5_1).f3))) (ds := []) #[false, false, false, false, false, false, false, false, false, false] (by kernel_rfl) rfl rfl ⟨(ck HB hw519_0), (ck HB hw519_1), (ck HB hw519_2), (ck HB hw519_3), (ck HB hw520_0), (ck HB hw520_1), (ck HB hw520_2), (ck HB hw520_3)⟩ (fun hHeld => ?_); refine with_tabW laws_eqIntervalS.tab6 laws_eqIntervalS.bits6 (fun HT_ HW_ => ?_)
             generalize wr.drew = w9 at HB hx519_0 hx519_1 hx519_2 hx519_3 hx520_0 hx520_1 hx520_2 hx520_3 hHeld ⊢
             refine pure_ (i := 0) (N := some 17) (v := ?_) (a' := ?_) #[true, false, false, false, false, false, false, false, false, false] rfl rfl (any_of HT_.out (by kernel_rfl)) (fun _ _ _ h => h) (Or.inl ⟨by rfl, ?_⟩) ?_ ?_
             rotate_left
             · intro w'
               go_simp
               with_reducible rfl
             rotate_left
             · simp only [Act.put, sx1, sx2, sx3, i64_w, i32_w]
               rfl
             refine pure_ (i := 1) (N := some 18) (v := ?_) (a' := ?_) #[true, true, false, false, false, false, false, false, false, false] rfl rfl (any_of HT_.out (by kernel_rfl)) (fun _ _ _ h => h) (Or.inl ⟨by rfl, ?_⟩) ?_ ?_
             rotate_left
             · intro w'
               go_simp
               with_reducible rfl
             rotate_left
             · simp only [Act.put, sx1, sx2, sx3, i64_w, i32_w]
               rfl
             refine pure_ (i := 2) (N := some 19) (v := ?_) (a' := ?_) #[true, true, true, false, false, false, false, false, false, false] rfl rfl (any_of HT_.out (by kernel_rfl)) (fun _ _ _ h => h) (Or.inl ⟨by rfl, ?_⟩) ?_ ?_
             rotate_left
             · intro w'
               go_simp
               with_reducible rfl
             rotate_left
             · simp only [Act.put, sx1, sx2, sx3, i64_w, i32_w]
               rfl
             refine pure_ (i := 4) (N := some 21) (v := ?_) (a' := ?_) #[true, true, true, false, true, false, false, false, false, false] rfl rfl (any_of HT_.out (by kernel_rfl)) (fun _ _ _ h => h) (Or.inl ⟨by rfl, ?_⟩) ?_ ?_
             rotate_left
             · intro w'
               go_simp
               with_reducible rfl
             rotate_left
             · simp only [Act.put, sx1, sx2, sx3, i64_w, i32_w]
               rfl
             refine pure_ (i := 5) (N := some 22) (v := ?_) (a' := ?_) #[true, true, true, false, true, true, false, false, false, false] rfl rfl (any_of HT_.out (by kernel_rfl)) (fun _ _ _ h => h) (Or.inl ⟨by rfl, ?_⟩) ?_ ?_
             rotate_left
             · intro w'
               go_simp
               with_reducible rfl
             rotate_left
             · simp only [Act.put, sx1, sx2, sx3, i64_w, i32_w]
               rfl
             refine pure_ (i := 6) (N := some 23) (v := ?_) (a' := ?_) #[true, true, true, false, true, true, true, false, false, false] rfl rfl (any_of HT_.out (by kernel_rfl)) (fun _ _ _ h => h) (Or.inl ⟨by rfl, ?_⟩) ?_ ?_
             rotate_left
             · intro w'
               go_simp
               with_reducible rfl
             rotate_left
             · simp only [Act.put, sx1, sx2, sx3, i64_w, i32_w]
               rfl
             refine take_ (i := 3) (N := some 20) (v := ?_) (a' := ?_) #[true, true, true, true, true, true, true, false, false, false] rfl rfl (take_ofW HT_.out HW_.out (by kernel_rfl)) (fun _ _ _ h => h) (Or.inl ⟨by rfl, ?_⟩) hHeld ?_ ?_
             rotate_left
             · rintro w' ⟨s0, s1, s2, s3, s4, s5, s6, s7⟩
               go_simp
               with_reducible rfl
             rotate_left
             · simp only [Act.put, sx1, sx2, sx3, i64_w, i32_w]
               rfl
             refine take_ (i := 7) (N := some 24) (v := ?_) (a' := ?_) #[true, true, true, true, true, true, true, true, false, false] rfl rfl (take_ofW HT_.out HW_.out (by kernel_rfl)) (fun _ _ _ h => h) (Or.inl ⟨by rfl, ?_⟩) hHeld ?_ ?_
             rotate_left
             · rintro w' ⟨s0, s1, s2, s3, s4, s5, s6, s7⟩
               go_simp
               with_reducible rfl
             rotate_left
             · simp only [Act.put, sx1, sx2, sx3, i64_w, i32_w]
               rfl
             refine one_ (i := 8) (N := some 25) #[true, true, true, true, true, true, true, true, true, false] rfl rfl (one_of HT_.out (by kernel_rfl)) (by decide) (fun K hK => ?_)
             refine goes_ Try.func77 (by kernel_rfl) rfl #[.agg #[.int .i64 ((rd_T113 l0 x5_1).f0), .int .i64 ((rd_T113 l0 x5_1).f1), .int .i64 ((rd_T113 l0 x5_1).f2), .bool ((rd_T113 l0 x5_1).f3)], .agg #[.int .i64 ((rd_T113 l1 x5_1).f0), .int .i64 ((rd_T113 l1 x5_1).f1), .int .i64 ((rd_T113 l1 x5_1).f2), .bool ((rd_T113 l1 x5_1).f3)]] (by rfl) rfl rfl lz ?_
             with_reducible refine (laws_eqInterval.calls ((rd_T113 l0 x5_1).f0) ((rd_T113 l0 x5_1).f1) ((rd_T113 l0 x5_1).f2) ((rd_T113 l0 x5_1).f3) ((rd_T113 l1 x5_1).f0) ((rd_T113 l1 x5_1).f1) ((rd_T113 l1 x5_1).f2) ((rd_T113 l1 x5_1).f3) true _ A7.out).mono ?_
             rintro e w10 ⟨rfl, hb⟩
             refine ⟨_, rfl, ?_⟩
             replace HB := Aside0.mk (below_step bz hb)
             (try clear hb)
             (try clear hb2)
             (try clear hk)
             (try clear hi)
             refine hK.out _ _ ⟨(ck HB hw519_0), (ck HB hw519_1), (ck HB hw519_2), (ck HB hw519_3), (ck HB hw520_0), (ck HB hw520_1), (ck HB hw520_2), (ck HB hw520_3)⟩ (fun hHeld => ?_)
             clear hK K
             refine norm_ (a' := ?_) ?_ ?_
             rotate_left
             · show Act.put _ (some 25) _ = _
               simp only [Act.put, sx1, sx2, sx3, i64_w, i32_w]
               rfl
             refine pure_ (i := 9) (N := some 26) (v := ?_) (a' := ?_) #[true, true, true, true, true, true, true, true, true, true] rfl rfl (any_of HT_.out (by kernel_rfl)) (fun _ _ _ h => h) (Or.inl ⟨by rfl, ?_⟩) ?_ ?_
             rotate_left
             · intro w'
               go_simp
               with_reducible rfl
             rotate_left
             · simp only [Act.put, sx1, sx2, sx3, i64_w, i32_w]
               rfl
             refine done_ (done_of HT_.out (by kernel_rfl)) ?_
             try go_wp2
             go_roundg k1
             case measure => have := HK1.out; omega
             case rel => exact ⟨(wrap64 (x5_1 + 1)), sz_, H', ⟨by have := HK1.out; omega⟩, ⟨ bz⟩⟩
           · replace c8 := Bool.eq_false_iff.mpr c8
             subst c8
             have H1 : (some false) = some r := by rw [if_neg (show ¬ (false = true) by decide)] at H; exact H
             clear H
             have H := H1
             clear H1
             obtain rfl := Option.some.inj H
             try go_wp2
             replace HB := Aside0.mk (below_drew1 HB.out)
             have p519 : 0 ≤ (x5_1 : Int) := of_decide_eq_true az
             have q519 : x5_1 < (l0.length : Int) := of_decide_eq_true az
             obtain ⟨ad519, e519, hx519_0, hx519_1, hx519_2, hx519_3⟩ := at_T113 HR0.out x5_1 p519 q519
             have hw519_3 := hx519_3
             have hw519_2 := hx519_2
             have hw519_1 := hx519_1
             have hw519_0 := hx519_0
             cases e519
             replace hx519_0 := ck HB hx519_0
             replace hx519_1 := ck HB hx519_1
             replace hx519_2 := ck HB hx519_2
             replace hx519_3 := ck HB hx519_3
             replace p519 := eq_true p519
             replace q519 := eq_true q519
             have p520 : 0 ≤ (x5_1 : Int) := of_decide_eq_true az
             have q520 : x5_1 < (l1.length : Int) := of_decide_eq_true az
             obtain ⟨ad520, e520, hx520_0, hx520_1, hx520_2, hx520_3⟩ := at_T113 HR1.out x5_1 p520 q520
             have hw520_3 := hx520_3
             have hw520_2 := hx520_2
             have hw520_1 := hx520_1
             have hw520_0 := hx520_0
             cases e520
             replace hx520_0 := ck HB hx520_0
             replace hx520_1 := ck HB hx520_1
             replace hx520_2 := ck HB hx520_2
             replace hx520_3 := ck HB hx520_3
             replace p520 := eq_true p520
             replace q520 := eq_true q520
             refine start_ (n := 10) (S := fun w' => w'.cell? (ad519.add ((x5_1).toNat * 4)) = some (.int .i64 ((rd_T113 l0 x5_1).f0)) ∧ w'.cell? ⟨(ad519.add ((x5_1).toNat * 4)).block, (ad519.add ((x5_1).toNat * 4)).off + 1, none⟩ = some (.int .i64 ((rd_T113 l0 x5_1).f1)) ∧ w'.cell? ⟨(ad519.add ((x5_1).toNat * 4)).block, (ad519.add ((x5_1).toNat * 4)).off + 2, none⟩ = some (.int .i64 ((rd_T113 l0 x5_1).f2)) ∧ w'.cell? ⟨(ad519.add ((x5_1).toNat * 4)).block, (ad519.add ((x5_1).toNat * 4)).off + 3, none⟩ = some (.bool ((rd_T113 l0 x5_1).f3)) ∧ w'.cell? (ad520.add ((x5_1).toNat * 4)) = some (.int .i64 ((rd_T113 l1 x5_1).f0)) ∧ w'.cell? ⟨(ad520.add ((x5_1).toNat * 4)).block, (ad520.add ((x5_1).toNat * 4)).off + 1, none⟩ = some (.int .i64 ((rd_T113 l1 x5_1).f1)) ∧ w'.cell? ⟨(ad520.add ((x5_1).toNat * 4)).block, (ad520.add ((x5_1).toNat * 4)).off + 2, none⟩ = some (.int .i64 ((rd_T113 l1 x5_1).f2)) ∧ w'.cell? ⟨(ad520.add ((x5_1).toNat * 4)).block, (ad520.add ((x5_1).toNat * 4)).off + 3, none⟩ = some (.bool ((rd_T113 l1 x5_1).f3))) (ds := []) #[false, false, false, false, false, false, false, false, false, false] (by kernel_rfl) rfl rfl ⟨(ck HB hw519_0), (ck HB hw519_1), (ck HB hw519_2), (ck HB hw519_3), (ck HB hw520_0), (ck HB hw520_1), (ck HB hw520_2), (ck HB hw520_3)⟩ (fun hHeld => ?_); refine with_tabW laws_eqIntervalS.tab6 laws_eqIntervalS.bits6 (fun HT_ HW_ => ?_)
             generalize wr.drew = w11 at HB hx519_0 hx519_1 hx519_2 hx519_3 hx520_0 hx520_1 hx520_2 hx520_3 hHeld ⊢
             refine pure_ (i := 0) (N := some 17) (v := ?_) (a' := ?_) #[true, false, false, false, false, false, false, false, false, false] rfl rfl (any_of HT_.out (by kernel_rfl)) (fun _ _ _ h => h) (Or.inl ⟨by rfl, ?_⟩) ?_ ?_
             rotate_left
             · intro w'
               go_simp
               with_reducible rfl
             rotate_left
             · simp only [Act.put, sx1, sx2, sx3, i64_w, i32_w]
               rfl
             refine pure_ (i := 1) (N := some 18) (v := ?_) (a' := ?_) #[true, true, false, false, false, false, false, false, false, false] rfl rfl (any_of HT_.out (by kernel_rfl)) (fun _ _ _ h => h) (Or.inl ⟨by rfl, ?_⟩) ?_ ?_
             rotate_left
             · intro w'
               go_simp
               with_reducible rfl
             rotate_left
             · simp only [Act.put, sx1, sx2, sx3, i64_w, i32_w]
               rfl
             refine pure_ (i := 2) (N := some 19) (v := ?_) (a' := ?_) #[true, true, true, false, false, false, false, false, false, false] rfl rfl (any_of HT_.out (by kernel_rfl)) (fun _ _ _ h => h) (Or.inl ⟨by rfl, ?_⟩) ?_ ?_
             rotate_left
             · intro w'
               go_simp
               with_reducible rfl
             rotate_left
             · simp only [Act.put, sx1, sx2, sx3, i64_w, i32_w]
               rfl
             refine pure_ (i := 4) (N := some 21) (v := ?_) (a' := ?_) #[true, true, true, false, true, false, false, false, false, false] rfl rfl (any_of HT_.out (by kernel_rfl)) (fun _ _ _ h => h) (Or.inl ⟨by rfl, ?_⟩) ?_ ?_
             rotate_left
             · intro w'
               go_simp
               with_reducible rfl
             rotate_left
             · simp only [Act.put, sx1, sx2, sx3, i64_w, i32_w]
               rfl
             refine pure_ (i := 5) (N := some 22) (v := ?_) (a' := ?_) #[true, true, true, false, true, true, false, false, false, false] rfl rfl (any_of HT_.out (by kernel_rfl)) (fun _ _ _ h => h) (Or.inl ⟨by rfl, ?_⟩) ?_ ?_
             rotate_left
             · intro w'
               go_simp
               with_reducible rfl
             rotate_left
             · simp only [Act.put, sx1, sx2, sx3, i64_w, i32_w]
               rfl
             refine pure_ (i := 6) (N := some 23) (v := ?_) (a' := ?_) #[true, true, true, false, true, true, true, false, false, false] rfl rfl (any_of HT_.out (by kernel_rfl)) (fun _ _ _ h => h) (Or.inl ⟨by rfl, ?_⟩) ?_ ?_
             rotate_left
             · intro w'
               go_simp
               with_reducible rfl
             rotate_left
             · simp only [Act.put, sx1, sx2, sx3, i64_w, i32_w]
               rfl
             refine take_ (i := 3) (N := some 20) (v := ?_) (a' := ?_) #[true, true, true, true, true, true, true, false, false, false] rfl rfl (take_ofW HT_.out HW_.out (by kernel_rfl)) (fun _ _ _ h => h) (Or.inl ⟨by rfl, ?_⟩) hHeld ?_ ?_
             rotate_left
             · rintro w' ⟨s0, s1, s2, s3, s4, s5, s6, s7⟩
               go_simp
               with_reducible rfl
             rotate_left
             · simp only [Act.put, sx1, sx2, sx3, i64_w, i32_w]
               rfl
             refine take_ (i := 7) (N := some 24) (v := ?_) (a' := ?_) #[true, true, true, true, true, true, true, true, false, false] rfl rfl (take_ofW HT_.out HW_.out (by kernel_rfl)) (fun _ _ _ h => h) (Or.inl ⟨by rfl, ?_⟩) hHeld ?_ ?_
             rotate_left
             · rintro w' ⟨s0, s1, s2, s3, s4, s5, s6, s7⟩
               go_simp
               with_reducible rfl
             rotate_left
             · simp only [Act.put, sx1, sx2, sx3, i64_w, i32_w]
               rfl
             refine one_ (i := 8) (N := some 25) #[true, true, true, true, true, true, true, true, true, false] rfl rfl (one_of HT_.out (by kernel_rfl)) (by decide) (fun K hK => ?_)
             refine goes_ Try.func77 (by kernel_rfl) rfl #[.agg #[.int .i64 ((rd_T113 l0 x5_1).f0), .int .i64 ((rd_T113 l0 x5_1).f1), .int .i64 ((rd_T113 l0 x5_1).f2), .bool ((rd_T113 l0 x5_1).f3)], .agg #[.int .i64 ((rd_T113 l1 x5_1).f0), .int .i64 ((rd_T113 l1 x5_1).f1), .int .i64 ((rd_T113 l1 x5_1).f2), .bool ((rd_T113 l1 x5_1).f3)]] (by rfl) rfl rfl lz ?_
             with_reducible refine (laws_eqInterval.calls ((rd_T113 l0 x5_1).f0) ((rd_T113 l0 x5_1).f1) ((rd_T113 l0 x5_1).f2) ((rd_T113 l0 x5_1).f3) ((rd_T113 l1 x5_1).f0) ((rd_T113 l1 x5_1).f1) ((rd_T113 l1 x5_1).f2) ((rd_T113 l1 x5_1).f3) false _ A7.out).mono ?_
             rintro e w12 ⟨rfl, hb⟩
             refine ⟨_, rfl, ?_⟩
             replace HB := Aside0.mk (below_step bz hb)
             (try clear hb)
             (try clear hb2)
             (try clear hk)
             (try clear hi)
             refine hK.out _ _ ⟨(ck HB hw519_0), (ck HB hw519_1), (ck HB hw519_2), (ck HB hw519_3), (ck HB hw520_0), (ck HB hw520_1), (ck HB hw520_2), (ck HB hw520_3)⟩ (fun hHeld => ?_)
             clear hK K
             refine norm_ (a' := ?_) ?_ ?_
             rotate_left
             · show Act.put _ (some 25) _ = _
               simp only [Act.put, sx1, sx2, sx3, i64_w, i32_w]
               rfl
             refine pure_ (i := 9) (N := some 26) (v := ?_) (a' := ?_) #[true, true, true, true, true, true, true, true, true, true] rfl rfl (any_of HT_.out (by kernel_rfl)) (fun _ _ _ h => h) (Or.inl ⟨by rfl, ?_⟩) ?_ ?_
             rotate_left
             · intro w'
               go_simp
               with_reducible rfl
             rotate_left
             · simp only [Act.put, sx1, sx2, sx3, i64_w, i32_w]
               rfl
             refine done_ (done_of HT_.out (by kernel_rfl)) ?_
             try go_wp2
             go_ret
             exact ⟨by first | rfl | (simp [errW_none, errW_some] <;> rfl) | (simp [*, errW_none, errW_some] <;> rfl), bz⟩
         · rw [if_neg c6] at H
           exact absurd H (by simp)
       · rw [if_neg c5] at H
         exact absurd H (by simp)
     · rw [if_neg c4] at H
       have c4b0 : decide (x5_1 < (l0.length : Int)) = false := decide_eq_false c4
       clear c4
       obtain rfl := Option.some.inj H
       go_wp2
       go_ret
       exact ⟨by first | rfl | (simp [errW_none, errW_some] <;> rfl) | (simp [*, errW_none, errW_some] <;> rfl), bz⟩
 · rw [if_neg c3] at H
   have c3b0 : ((l0.length : Int) == (l1.length : Int)) = false := beq_eq_false_iff_ne.mpr c3
   have c3b1 : ((l0.length : Int) != (l1.length : Int)) = true := bne_iff_ne.mpr c3
   have c3b2 : (l0.length == l1.length) = false := by first | simpa using c3 | (simp at c3 ⊢; omega)
   obtain rfl := Option.some.inj H
   go_enter Try.func25, Try.ntmps25
   go_wp2
   go_ret
   exact ⟨by first | rfl | (simp [errW_none, errW_some] <;> rfl) | (simp [*, errW_none, errW_some] <;> rfl), bz⟩

set_option linter.unusedVariables false
set_option linter.unusedSimpArgs false

def laws_markIntervalS.l0 : Nat → List (S113) → Int → Int → Option (Int × (List (S113)))
 | 0, _, _, _ => none
 | k + 1, x0, x1, x5 => if x5 < (x0.length : Int) then (if 0 ≤ x5 then ((some (x0.set (x5 : Int).toNat (⟨x1, (rd_T113 x0 x5).f1, (rd_T113 x0 x5).f2, (rd_T113 x0 x5).f3⟩ : S113) : List (S113))).bind fun y522 => ((some (y522.set (x5 : Int).toNat (⟨(rd_T113 y522 x5).f0, wrap64 (x1 + 1), (rd_T113 y522 x5).f2, (rd_T113 y522 x5).f3⟩ : S113) : List (S113))).bind fun y523 => ((some (y523.set (x5 : Int).toNat (⟨(rd_T113 y523 x5).f0, (rd_T113 y523 x5).f1, wrap64 ((wrap64 (x1 + 1)) + 1), (rd_T113 y523 x5).f3⟩ : S113) : List (S113))).bind fun y524 => (laws_markIntervalS.l0 k (y524.set (x5 : Int).toNat (⟨(rd_T113 y524 x5).f0, (rd_T113 y524 x5).f1, (rd_T113 y524 x5).f2, ((Int.tmod (wrap64 ((wrap64 ((wrap64 (x1 + 1)) + 1)) + 1)) 3) == 0)⟩ : S113)) (wrap64 ((wrap64 ((wrap64 ((wrap64 (x1 + 1)) + 1)) + 1)) + 1)) (wrap64 (x5 + 1)))))) else (none)) else (some (x1, x0))
def laws_markIntervalS.f (k : Nat) (l0 : List (S113)) (a1 : Int) : Option (Int × (List (S113))) := laws_markIntervalS.l0 k l0 a1 0
set_option maxHeartbeats 8000000 in
set_option maxRecDepth 100000 in
theorem laws_markIntervalS.calls (k : Nat) (P0_ : Nat → Prop) (u9000_ : Value) (l0 : List (S113)) (a1 : Int) (r1 : Int) (r2 : List (S113)) (w0 w : World) (hB : Below w0.heap.size w0 w) (ho0 : Kd.R k113 113 w w0.heap.size P0_ u9000_ l0) (h : laws_markIntervalS.f k l0 a1 = some (r1, r2)) :
 Calls Try.prog 26 #[u9000_, .int .i64 a1] w fun e w' => e = .returned (.int .i64 r1) ∧ Kd.R k113 113 w' w0.heap.size (fun k_ => (P0_ k_ ∨ w.heap.size ≤ k_)) u9000_ r2 ∧ Below w0.heap.size w0 w' ∧ Kept w w' (fun k_ => P0_ k_) := by
 have HO0 := Aside0.mk (show Kd.R k113 113 w w0.heap.size (fun k_ => (P0_ k_ ∨ w.heap.size ≤ k_)) u9000_ l0 from Kd.R_mono ho0 (fun k_ hk => (.inl hk)))
 have HK := Aside0.mk (Kept.refl w (fun k_ => P0_ k_))
 have HW0 := Aside0.mk hB.size
 have HB := Aside0.mk hB
 clear hB
 have H : (laws_markIntervalS.l0 k l0 a1 0) = some (r1, r2) := h
 clear h
 have H' := Aside0.mk H
 clear H
 go_enter Try.func26, Try.ntmps26
 go_wp2
 go_loopg [1, 5] k (fun kq v1 v5 w' => ∃ (x0_1 : List (S113)) (x1_1 : Int) (x5_1 : Int), v1 = .int .i64 x1_1 ∧ v5 = .int .i64 x5_1 ∧ Aside0 (laws_markIntervalS.l0 kq x0_1 x1_1 x5_1 = some (r1, r2)) ∧ Aside0 (kq ≤ k) ∧ Aside0 (Kd.R k113 113 w' w0.heap.size (fun k_ => (P0_ k_ ∨ w.heap.size ≤ k_)) u9000_ x0_1) ∧ Aside0 (Kept w w' (fun k_ => P0_ k_)) ∧ Aside0 (Below w0.heap.size w0 w'))
 case atStart => exact ⟨(l0), (a1), (0), sz_, sz_, H', ⟨Nat.le_refl _⟩, ⟨by (with_reducible repeat (first | apply Kd.R_alloc | apply Kd.R_drewN | apply Kd.R_drew)); exact HO0.out⟩, ⟨by repeat (first | (with_reducible first | exact HK.out | apply Kept.alloc | apply Kept.drewN | apply Kept.drew) | exact HK.out)⟩, ⟨ bz⟩⟩
 case round =>
  clear H'
  obtain ⟨x0_1, x1_1, x5_1, rfl, rfl, HA, HK1, HO_0, HK, HB⟩ := hrel
  cases gk with
  | zero => exact absurd HA.out (by simp [laws_markIntervalS.l0])
  | succ k1 =>
   have H := HA.out
   clear HA
   simp only [laws_markIntervalS.l0] at H
   by_cases c3 : x5_1 < (x0_1.length : Int)
   · rw [if_pos c3] at H
     have c3b0 : decide (x5_1 < (x0_1.length : Int)) = true := decide_eq_true c3
     clear c3
     by_cases c4 : 0 ≤ x5_1
     · rw [if_pos c4] at H
       have c4b0 : decide (0 ≤ x5_1) = true := decide_eq_true c4
       clear c4
       obtain ⟨y522, hy522⟩ : ∃ y_ : List (S113), y_ = (x0_1.set (x5_1 : Int).toNat (⟨x1_1, (rd_T113 x0_1 x5_1).f1, (rd_T113 x0_1 x5_1).f2, (rd_T113 x0_1 x5_1).f3⟩ : S113)) := ⟨_, rfl⟩
       replace H : ((some (y522.set (x5_1 : Int).toNat (⟨(rd_T113 y522 x5_1).f0, wrap64 (x1_1 + 1), (rd_T113 y522 x5_1).f2, (rd_T113 y522 x5_1).f3⟩ : S113) : List (S113))).bind fun y523 => ((some (y523.set (x5_1 : Int).toNat (⟨(rd_T113 y523 x5_1).f0, (rd_T113 y523 x5_1).f1, wrap64 ((wrap64 (x1_1 + 1)) + 1), (rd_T113 y523 x5_1).f3⟩ : S113) : List (S113))).bind fun y524 => (laws_markIntervalS.l0 k1 (y524.set (x5_1 : Int).toNat (⟨(rd_T113 y524 x5_1).f0, (rd_T113 y524 x5_1).f1, (rd_T113 y524 x5_1).f2, ((Int.tmod (wrap64 ((wrap64 ((wrap64 (x1_1 + 1)) + 1)) + 1)) 3) == 0)⟩ : S113)) (wrap64 ((wrap64 ((wrap64 ((wrap64 (x1_1 + 1)) + 1)) + 1)) + 1)) (wrap64 (x5_1 + 1))))) = some (r1, r2) := by first | (rw [hy522]; with_reducible exact H) | (have H2_ := (Option.bind_some _ _).symm.trans H; rw [hy522]; with_reducible exact H2_) | (have H2_ := (Option.bind_some _ _).symm.trans H; with_reducible exact H2_) | with_reducible exact H | (rw [hy522]; exact H) | exact H
       have Ny522 := Aside0.mk hy522
       clear hy522
       obtain ⟨y523, hy523⟩ : ∃ y_ : List (S113), y_ = (y522.set (x5_1 : Int).toNat (⟨(rd_T113 y522 x5_1).f0, wrap64 (x1_1 + 1), (rd_T113 y522 x5_1).f2, (rd_T113 y522 x5_1).f3⟩ : S113)) := ⟨_, rfl⟩
       replace H : ((some (y523.set (x5_1 : Int).toNat (⟨(rd_T113 y523 x5_1).f0, (rd_T113 y523 x5_1).f1, wrap64 ((wrap64 (x1_1 + 1)) + 1), (rd_T113 y523 x5_1).f3⟩ : S113) : List (S113))).bind fun y524 => (laws_markIntervalS.l0 k1 (y524.set (x5_1 : Int).toNat (⟨(rd_T113 y524 x5_1).f0, (rd_T113 y524 x5_1).f1, (rd_T113 y524 x5_1).f2, ((Int.tmod (wrap64 ((wrap64 ((wrap64 (x1_1 + 1)) + 1)) + 1)) 3) == 0)⟩ : S113)) (wrap64 ((wrap64 ((wrap64 ((wrap64 (x1_1 + 1)) + 1)) + 1)) + 1)) (wrap64 (x5_1 + 1)))) = some (r1, r2) := by first | (rw [hy523]; with_reducible exact H) | (have H2_ := (Option.bind_some _ _).symm.trans H; rw [hy523]; with_reducible exact H2_) | (have H2_ := (Option.bind_some _ _).symm.trans H; with_reducible exact H2_) | with_reducible exact H | (rw [hy523]; exact H) | exact H
       have Ny523 := Aside0.mk hy523
       clear hy523
       obtain ⟨y524, hy524⟩ : ∃ y_ : List (S113), y_ = (y523.set (x5_1 : Int).toNat (⟨(rd_T113 y523 x5_1).f0, (rd_T113 y523 x5_1).f1, wrap64 ((wrap64 (x1_1 + 1)) + 1), (rd_T113 y523 x5_1).f3⟩ : S113)) := ⟨_, rfl⟩
       replace H : (laws_markIntervalS.l0 k1 (y524.set (x5_1 : Int).toNat (⟨(rd_T113 y524 x5_1).f0, (rd_T113 y524 x5_1).f1, (rd_T113 y524 x5_1).f2, ((Int.tmod (wrap64 ((wrap64 ((wrap64 (x1_1 + 1)) + 1)) + 1)) 3) == 0)⟩ : S113)) (wrap64 ((wrap64 ((wrap64 ((wrap64 (x1_1 + 1)) + 1)) + 1)) + 1)) (wrap64 (x5_1 + 1))) = some (r1, r2) := by first | (rw [hy524]; with_reducible exact H) | (have H2_ := (Option.bind_some _ _).symm.trans H; rw [hy524]; with_reducible exact H2_) | (have H2_ := (Option.bind_some _ _).symm.trans H; with_reducible exact H2_) | with_reducible exact H | (rw [hy524]; exact H) | exact H
       have Ny524 := Aside0.mk hy524
       clear hy524
       obtain ⟨y525, hy525⟩ : ∃ y_ : List (S113), y_ = (y524.set (x5_1 : Int).toNat (⟨(rd_T113 y524 x5_1).f0, (rd_T113 y524 x5_1).f1, (rd_T113 y524 x5_1).f2, ((Int.tmod (wrap64 ((wrap64 ((wrap64 (x1_1 + 1)) + 1)) + 1)) 3) == 0)⟩ : S113)) := ⟨_, rfl⟩
       replace H : (laws_markIntervalS.l0 k1 y525 (wrap64 ((wrap64 ((wrap64 ((wrap64 (x1_1 + 1)) + 1)) + 1)) + 1)) (wrap64 (x5_1 + 1))) = some (r1, r2) := by first | (rw [hy525]; with_reducible exact H) | (have H2_ := (Option.bind_some _ _).symm.trans H; rw [hy525]; with_reducible exact H2_) | (have H2_ := (Option.bind_some _ _).symm.trans H; with_reducible exact H2_) | with_reducible exact H | (rw [hy525]; exact H) | exact H
       have Ny525 := Aside0.mk hy525
       clear hy525
       have H' := Aside0.mk H
       clear H
       obtain ⟨Ao9, co9, eo9⟩ := Kd.R_slice HO_0.out
       subst eo9
       have p5 : 0 ≤ (x5_1 : Int) := of_decide_eq_true az
       have q5 : (x5_1 : Int) < ((x0_1.length : Int) : Int) := of_decide_eq_true az
       obtain ⟨go5, co5, eo5, gb5, gl5, cl5, HG5⟩ := Kd.R_form HO_0.out (by omega)
       (first | cases eo5 | (injection eo5 with ea_ en_ ec_; (first | subst ea_ | (injection ea_ with ea_; subst ea_)); subst ec_; clear en_))
       have GB5 := Aside0.mk gb5
       have GG5 := Aside0.mk HG5
       clear gb5 gl5 HG5
       have HMgo5 := Aside0.mk (show (P0_ go5 ∨ w.heap.size ≤ go5) from (HO_0.out.1 _ rfl))
       obtain ⟨ce5, hcl5, hM5, hcc5, hfr5⟩ := Kd.R_elem HO_0.out z113 (x5_1 : Int) p5 q5
       obtain rfl := k113_openM hM5
       have hx5_0 : wr.cell? ⟨go5, (x5_1 : Int).toNat * 4, none⟩ = some (.int .i64 ((rd_T113 x0_1 x5_1).f0)) := hcc5 0 _ rfl
       have hx5_1 : wr.cell? ⟨go5, (x5_1 : Int).toNat * 4 + 1, none⟩ = some (.int .i64 ((rd_T113 x0_1 x5_1).f1)) := hcc5 1 _ rfl
       have hx5_2 : wr.cell? ⟨go5, (x5_1 : Int).toNat * 4 + 2, none⟩ = some (.int .i64 ((rd_T113 x0_1 x5_1).f2)) := hcc5 2 _ rfl
       have hx5_3 : wr.cell? ⟨go5, (x5_1 : Int).toNat * 4 + 3, none⟩ = some (.bool ((rd_T113 x0_1 x5_1).f3)) := hcc5 3 _ rfl
       have hf5_0 : wr.frozen? ⟨go5, (x5_1 : Int).toNat * 4, none⟩ = false := hfr5 0
       have hf5_1 : wr.frozen? ⟨go5, (x5_1 : Int).toNat * 4 + 1, none⟩ = false := hfr5 1
       have hf5_2 : wr.frozen? ⟨go5, (x5_1 : Int).toNat * 4 + 2, none⟩ = false := hfr5 2
       have hf5_3 : wr.frozen? ⟨go5, (x5_1 : Int).toNat * 4 + 3, none⟩ = false := hfr5 3
       clear hcl5 hcc5 hfr5
       (try clear hM5)
       replace p5 := eq_true p5
       replace q5 := eq_true q5
       have HX10 := Aside0.mk (show Kd.R k113 113 wr w0.heap.size (fun k_ => (P0_ k_ ∨ w.heap.size ≤ k_)) (.slice (some ⟨go5, 0, none⟩) x0_1.length co9) x0_1 from (rz HO_0.out))
       obtain ⟨ce10, hcl10, hM10, hcc10, hfr10⟩ := Kd.R_elem HX10.out z113 (x5_1 : Int) (of_decide_eq_true az) (by have h_ : (x5_1 : Int) < ((x0_1.length : Int) : Int) := of_decide_eq_true az; first | exact h_ | (have e_ := (Kd.R_reads' HO_0.out).1; omega) | simpa using h_)
       obtain rfl := k113_openM hM10
       have HP10 := Kd.R_seg HX10.out (x5_1 : Int) (of_decide_eq_true az) (by have h_ : (x5_1 : Int) < ((x0_1.length : Int) : Int) := of_decide_eq_true az; first | exact h_ | (have e_ := (Kd.R_reads' HO_0.out).1; omega) | simpa using h_) (seg := [.int .i64 x1_1]) (j := 0) hcl10 hcc10 (show 1 ≤ 4 from by decide) (x' := (⟨x1_1, (rd_T113 x0_1 x5_1).f1, (rd_T113 x0_1 x5_1).f2, (rd_T113 x0_1 x5_1).f3⟩ : S113)) (k113_mkM _ _ _ (⟨x1_1, (rd_T113 x0_1 x5_1).f1, (rd_T113 x0_1 x5_1).f2, (rd_T113 x0_1 x5_1).f3⟩ : S113) ) (fun _ hk => hk)
       have hx10_0 := hcc10 0 _ rfl
       (try simp only [show (k113).sz = 4 from rfl, Nat.mul_one, Nat.add_zero] at hx10_0)
       have hf10_0 := hfr10 0
       (try simp only [show (k113).sz = 4 from rfl, Nat.mul_one, Nat.add_zero] at hf10_0)
       clear hcl10 hcc10 hfr10
       (try clear hM10)
       go_wp2_with (first | ((with_reducible refine gate_store (t := 2) (p := 16) rfl ?_); refine store_event (t := 2) (p := 16) (v := ?vo_w11) (w1 := (wr.setCell ⟨go5, (x5_1 : Int).toNat * 4, none⟩ (.int .i64 x1_1))) ?hg ?ho ?hn ?hr ?_; (case ho => rfl); (case hg => rfl); (case hn => rfl); (case hr => first | (go_simp; done) | (go_simp; rfl)); intro w11 hw; have hg : wr.grownBy w11 (some go5) := (by rw [hw]; exact HP10.2); have hp_ : Kd.R k113 113 w11 w0.heap.size (fun k_ => (P0_ k_ ∨ w.heap.size ≤ k_)) (.slice (some ⟨go5, 0, none⟩) x0_1.length co9) y522 := (by rw [hw, Ny522.out]; exact HP10.1); clear HP10; replace HO_0 := Aside0.mk (hp_); replace HK := Aside0.mk (Kept.of_grown (S := (fun k_ => P0_ k_)) hg (by repeat (first | (with_reducible first | exact HK.out | apply Kept.alloc | apply Kept.drewN | apply Kept.drew) | exact HK.out)) (fun k_ e_ => (HO_0.out.1 k_ e_))); replace HB := Aside0.mk ((by rw [hw]; exact below_set (HB.out) GB5.out : Below w0.heap.size w0 w11)); clear hg hw hp_; have p6 : 0 ≤ (x5_1 : Int) := of_decide_eq_true az; have q6 : (x5_1 : Int) < ((x0_1.length : Int) : Int) := of_decide_eq_true az; obtain ⟨ce6, hcl6, hM6, hcc6, hfr6⟩ := Kd.R_elem HO_0.out z113 (x5_1 : Int) p6 q6; obtain rfl := k113_openM hM6; have hx6_0 : w11.cell? ⟨go5, (x5_1 : Int).toNat * 4, none⟩ = some (.int .i64 ((rd_T113 y522 x5_1).f0)) := hcc6 0 _ rfl; have hx6_1 : w11.cell? ⟨go5, (x5_1 : Int).toNat * 4 + 1, none⟩ = some (.int .i64 ((rd_T113 y522 x5_1).f1)) := hcc6 1 _ rfl; have hx6_2 : w11.cell? ⟨go5, (x5_1 : Int).toNat * 4 + 2, none⟩ = some (.int .i64 ((rd_T113 y522 x5_1).f2)) := hcc6 2 _ rfl; have hx6_3 : w11.cell? ⟨go5, (x5_1 : Int).toNat * 4 + 3, none⟩ = some (.bool ((rd_T113 y522 x5_1).f3)) := hcc6 3 _ rfl; have hf6_0 : w11.frozen? ⟨go5, (x5_1 : Int).toNat * 4, none⟩ = false := hfr6 0; have hf6_1 : w11.frozen? ⟨go5, (x5_1 : Int).toNat * 4 + 1, none⟩ = false := hfr6 1; have hf6_2 : w11.frozen? ⟨go5, (x5_1 : Int).toNat * 4 + 2, none⟩ = false := hfr6 2; have hf6_3 : w11.frozen? ⟨go5, (x5_1 : Int).toNat * 4 + 3, none⟩ = false := hfr6 3; clear hcl6 hcc6 hfr6 hM6; replace p6 := eq_true p6; replace q6 := eq_true q6; have HX12 := Aside0.mk (show Kd.R k113 113 w11 w0.heap.size (fun k_ => (P0_ k_ ∨ w.heap.size ≤ k_)) (.slice (some ⟨go5, 0, none⟩) x0_1.length co9) y522 from (rz HO_0.out)); obtain ⟨ce12, hcl12, hM12, hcc12, hfr12⟩ := Kd.R_elem HX12.out z113 (x5_1 : Int) (of_decide_eq_true az) (by have h_ : (x5_1 : Int) < ((x0_1.length : Int) : Int) := of_decide_eq_true az; first | exact h_ | (have e_ := (Kd.R_reads' HO_0.out).1; omega) | simpa using h_); obtain rfl := k113_openM hM12; have HP12 := Kd.R_seg HX12.out (x5_1 : Int) (of_decide_eq_true az) (by have h_ : (x5_1 : Int) < ((x0_1.length : Int) : Int) := of_decide_eq_true az; first | exact h_ | (have e_ := (Kd.R_reads' HO_0.out).1; omega) | simpa using h_) (seg := [.int .i64 (wrap64 (x1_1 + 1))]) (j := 1) hcl12 hcc12 (show 2 ≤ 4 from by decide) (x' := (⟨(rd_T113 y522 x5_1).f0, wrap64 (x1_1 + 1), (rd_T113 y522 x5_1).f2, (rd_T113 y522 x5_1).f3⟩ : S113)) (k113_mkM _ _ _ (⟨(rd_T113 y522 x5_1).f0, wrap64 (x1_1 + 1), (rd_T113 y522 x5_1).f2, (rd_T113 y522 x5_1).f3⟩ : S113) ) (fun _ hk => hk); have hx12_1 := hcc12 1 _ rfl; (try simp only [show (k113).sz = 4 from rfl, Nat.mul_one, Nat.add_zero] at hx12_1); have hf12_1 := hfr12 1; (try simp only [show (k113).sz = 4 from rfl, Nat.mul_one, Nat.add_zero] at hf12_1); clear hcl12 hcc12 hfr12 hM12) | ((with_reducible refine gate_store (t := 2) (p := 23) rfl ?_); refine store_event (t := 2) (p := 23) (v := ?vo_w13) (w1 := (w11.setCell ⟨go5, (x5_1 : Int).toNat * 4 + 1, none⟩ (.int .i64 (wrap64 (x1_1 + 1))))) ?hg ?ho ?hn ?hr ?_; (case ho => rfl); (case hg => rfl); (case hn => rfl); (case hr => first | (go_simp; done) | (go_simp; rfl)); intro w13 hw; have hg : w11.grownBy w13 (some go5) := (by rw [hw]; exact HP12.2); have hp_ : Kd.R k113 113 w13 w0.heap.size (fun k_ => (P0_ k_ ∨ w.heap.size ≤ k_)) (.slice (some ⟨go5, 0, none⟩) x0_1.length co9) y523 := (by rw [hw, Ny523.out]; exact HP12.1); clear HP12; replace HO_0 := Aside0.mk (hp_); replace HK := Aside0.mk (Kept.of_grown (S := (fun k_ => P0_ k_)) hg (by repeat (first | (with_reducible first | exact HK.out | apply Kept.alloc | apply Kept.drewN | apply Kept.drew) | exact HK.out)) (fun k_ e_ => (HO_0.out.1 k_ e_))); replace HB := Aside0.mk ((by rw [hw]; exact below_set (HB.out) GB5.out : Below w0.heap.size w0 w13)); clear hg hw hp_; have p7 : 0 ≤ (x5_1 : Int) := of_decide_eq_true az; have q7 : (x5_1 : Int) < ((x0_1.length : Int) : Int) := of_decide_eq_true az; obtain ⟨ce7, hcl7, hM7, hcc7, hfr7⟩ := Kd.R_elem HO_0.out z113 (x5_1 : Int) p7 q7; obtain rfl := k113_openM hM7; have hx7_0 : w13.cell? ⟨go5, (x5_1 : Int).toNat * 4, none⟩ = some (.int .i64 ((rd_T113 y523 x5_1).f0)) := hcc7 0 _ rfl; have hx7_1 : w13.cell? ⟨go5, (x5_1 : Int).toNat * 4 + 1, none⟩ = some (.int .i64 ((rd_T113 y523 x5_1).f1)) := hcc7 1 _ rfl; have hx7_2 : w13.cell? ⟨go5, (x5_1 : Int).toNat * 4 + 2, none⟩ = some (.int .i64 ((rd_T113 y523 x5_1).f2)) := hcc7 2 _ rfl; have hx7_3 : w13.cell? ⟨go5, (x5_1 : Int).toNat * 4 + 3, none⟩ = some (.bool ((rd_T113 y523 x5_1).f3)) := hcc7 3 _ rfl; have hf7_0 : w13.frozen? ⟨go5, (x5_1 : Int).toNat * 4, none⟩ = false := hfr7 0; have hf7_1 : w13.frozen? ⟨go5, (x5_1 : Int).toNat * 4 + 1, none⟩ = false := hfr7 1; have hf7_2 : w13.frozen? ⟨go5, (x5_1 : Int).toNat * 4 + 2, none⟩ = false := hfr7 2; have hf7_3 : w13.frozen? ⟨go5, (x5_1 : Int).toNat * 4 + 3, none⟩ = false := hfr7 3; clear hcl7 hcc7 hfr7 hM7; replace p7 := eq_true p7; replace q7 := eq_true q7; have HX14 := Aside0.mk (show Kd.R k113 113 w13 w0.heap.size (fun k_ => (P0_ k_ ∨ w.heap.size ≤ k_)) (.slice (some ⟨go5, 0, none⟩) x0_1.length co9) y523 from (rz HO_0.out)); obtain ⟨ce14, hcl14, hM14, hcc14, hfr14⟩ := Kd.R_elem HX14.out z113 (x5_1 : Int) (of_decide_eq_true az) (by have h_ : (x5_1 : Int) < ((x0_1.length : Int) : Int) := of_decide_eq_true az; first | exact h_ | (have e_ := (Kd.R_reads' HO_0.out).1; omega) | simpa using h_); obtain rfl := k113_openM hM14; have HP14 := Kd.R_seg HX14.out (x5_1 : Int) (of_decide_eq_true az) (by have h_ : (x5_1 : Int) < ((x0_1.length : Int) : Int) := of_decide_eq_true az; first | exact h_ | (have e_ := (Kd.R_reads' HO_0.out).1; omega) | simpa using h_) (seg := [.int .i64 (wrap64 ((wrap64 (x1_1 + 1)) + 1))]) (j := 2) hcl14 hcc14 (show 3 ≤ 4 from by decide) (x' := (⟨(rd_T113 y523 x5_1).f0, (rd_T113 y523 x5_1).f1, wrap64 ((wrap64 (x1_1 + 1)) + 1), (rd_T113 y523 x5_1).f3⟩ : S113)) (k113_mkM _ _ _ (⟨(rd_T113 y523 x5_1).f0, (rd_T113 y523 x5_1).f1, wrap64 ((wrap64 (x1_1 + 1)) + 1), (rd_T113 y523 x5_1).f3⟩ : S113) ) (fun _ hk => hk); have hx14_2 := hcc14 2 _ rfl; (try simp only [show (k113).sz = 4 from rfl, Nat.mul_one, Nat.add_zero] at hx14_2); have hf14_2 := hfr14 2; (try simp only [show (k113).sz = 4 from rfl, Nat.mul_one, Nat.add_zero] at hf14_2); clear hcl14 hcc14 hfr14 hM14) | ((with_reducible refine gate_store (t := 2) (p := 30) rfl ?_); refine store_event (t := 2) (p := 30) (v := ?vo_w15) (w1 := (w13.setCell ⟨go5, (x5_1 : Int).toNat * 4 + 2, none⟩ (.int .i64 (wrap64 ((wrap64 (x1_1 + 1)) + 1))))) ?hg ?ho ?hn ?hr ?_; (case ho => rfl); (case hg => rfl); (case hn => rfl); (case hr => first | (go_simp; done) | (go_simp; rfl)); intro w15 hw; have hg : w13.grownBy w15 (some go5) := (by rw [hw]; exact HP14.2); have hp_ : Kd.R k113 113 w15 w0.heap.size (fun k_ => (P0_ k_ ∨ w.heap.size ≤ k_)) (.slice (some ⟨go5, 0, none⟩) x0_1.length co9) y524 := (by rw [hw, Ny524.out]; exact HP14.1); clear HP14; replace HO_0 := Aside0.mk (hp_); replace HK := Aside0.mk (Kept.of_grown (S := (fun k_ => P0_ k_)) hg (by repeat (first | (with_reducible first | exact HK.out | apply Kept.alloc | apply Kept.drewN | apply Kept.drew) | exact HK.out)) (fun k_ e_ => (HO_0.out.1 k_ e_))); replace HB := Aside0.mk ((by rw [hw]; exact below_set (HB.out) GB5.out : Below w0.heap.size w0 w15)); clear hg hw hp_; have p8 : 0 ≤ (x5_1 : Int) := of_decide_eq_true az; have q8 : (x5_1 : Int) < ((x0_1.length : Int) : Int) := of_decide_eq_true az; obtain ⟨ce8, hcl8, hM8, hcc8, hfr8⟩ := Kd.R_elem HO_0.out z113 (x5_1 : Int) p8 q8; obtain rfl := k113_openM hM8; have hx8_0 : w15.cell? ⟨go5, (x5_1 : Int).toNat * 4, none⟩ = some (.int .i64 ((rd_T113 y524 x5_1).f0)) := hcc8 0 _ rfl; have hx8_1 : w15.cell? ⟨go5, (x5_1 : Int).toNat * 4 + 1, none⟩ = some (.int .i64 ((rd_T113 y524 x5_1).f1)) := hcc8 1 _ rfl; have hx8_2 : w15.cell? ⟨go5, (x5_1 : Int).toNat * 4 + 2, none⟩ = some (.int .i64 ((rd_T113 y524 x5_1).f2)) := hcc8 2 _ rfl; have hx8_3 : w15.cell? ⟨go5, (x5_1 : Int).toNat * 4 + 3, none⟩ = some (.bool ((rd_T113 y524 x5_1).f3)) := hcc8 3 _ rfl; have hf8_0 : w15.frozen? ⟨go5, (x5_1 : Int).toNat * 4, none⟩ = false := hfr8 0; have hf8_1 : w15.frozen? ⟨go5, (x5_1 : Int).toNat * 4 + 1, none⟩ = false := hfr8 1; have hf8_2 : w15.frozen? ⟨go5, (x5_1 : Int).toNat * 4 + 2, none⟩ = false := hfr8 2; have hf8_3 : w15.frozen? ⟨go5, (x5_1 : Int).toNat * 4 + 3, none⟩ = false := hfr8 3; clear hcl8 hcc8 hfr8 hM8; replace p8 := eq_true p8; replace q8 := eq_true q8; have HX16 := Aside0.mk (show Kd.R k113 113 w15 w0.heap.size (fun k_ => (P0_ k_ ∨ w.heap.size ≤ k_)) (.slice (some ⟨go5, 0, none⟩) x0_1.length co9) y524 from (rz HO_0.out)); obtain ⟨ce16, hcl16, hM16, hcc16, hfr16⟩ := Kd.R_elem HX16.out z113 (x5_1 : Int) (of_decide_eq_true az) (by have h_ : (x5_1 : Int) < ((x0_1.length : Int) : Int) := of_decide_eq_true az; first | exact h_ | (have e_ := (Kd.R_reads' HO_0.out).1; omega) | simpa using h_); obtain rfl := k113_openM hM16; have HP16 := Kd.R_seg HX16.out (x5_1 : Int) (of_decide_eq_true az) (by have h_ : (x5_1 : Int) < ((x0_1.length : Int) : Int) := of_decide_eq_true az; first | exact h_ | (have e_ := (Kd.R_reads' HO_0.out).1; omega) | simpa using h_) (seg := [.bool ((Int.tmod (wrap64 ((wrap64 ((wrap64 (x1_1 + 1)) + 1)) + 1)) 3) == 0)]) (j := 3) hcl16 hcc16 (show 4 ≤ 4 from by decide) (x' := (⟨(rd_T113 y524 x5_1).f0, (rd_T113 y524 x5_1).f1, (rd_T113 y524 x5_1).f2, ((Int.tmod (wrap64 ((wrap64 ((wrap64 (x1_1 + 1)) + 1)) + 1)) 3) == 0)⟩ : S113)) (k113_mkM _ _ _ (⟨(rd_T113 y524 x5_1).f0, (rd_T113 y524 x5_1).f1, (rd_T113 y524 x5_1).f2, ((Int.tmod (wrap64 ((wrap64 ((wrap64 (x1_1 + 1)) + 1)) + 1)) 3) == 0)⟩ : S113) ) (fun _ hk => hk); have hx16_3 := hcc16 3 _ rfl; (try simp only [show (k113).sz = 4 from rfl, Nat.mul_one, Nat.add_zero] at hx16_3); have hf16_3 := hfr16 3; (try simp only [show (k113).sz = 4 from rfl, Nat.mul_one, Nat.add_zero] at hf16_3); clear hcl16 hcc16 hfr16 hM16) | ((with_reducible refine gate_store (t := 4) (p := 39) rfl ?_); refine store_event (t := 4) (p := 39) (v := ?vo_w17) (w1 := (w15.setCell ⟨go5, (x5_1 : Int).toNat * 4 + 3, none⟩ (.bool ((Int.tmod (wrap64 ((wrap64 ((wrap64 (x1_1 + 1)) + 1)) + 1)) 3) == 0)))) ?hg ?ho ?hn ?hr ?_; (case ho => rfl); (case hg => rfl); (case hn => rfl); (case hr => first | (go_simp; done) | (go_simp; rfl)); intro w17 hw; have hg : w15.grownBy w17 (some go5) := (by rw [hw]; exact HP16.2); have hp_ : Kd.R k113 113 w17 w0.heap.size (fun k_ => (P0_ k_ ∨ w.heap.size ≤ k_)) (.slice (some ⟨go5, 0, none⟩) x0_1.length co9) y525 := (by rw [hw, Ny525.out]; exact HP16.1); clear HP16; replace HO_0 := Aside0.mk (hp_); replace HK := Aside0.mk (Kept.of_grown (S := (fun k_ => P0_ k_)) hg (by repeat (first | (with_reducible first | exact HK.out | apply Kept.alloc | apply Kept.drewN | apply Kept.drew) | exact HK.out)) (fun k_ e_ => (HO_0.out.1 k_ e_))); replace HB := Aside0.mk ((by rw [hw]; exact below_set (HB.out) GB5.out : Below w0.heap.size w0 w17)); clear hg hw hp_))
       go_roundg k1
       case measure => have := HK1.out; omega
       case rel => exact ⟨(y525), (wrap64 ((wrap64 ((wrap64 ((wrap64 (x1_1 + 1)) + 1)) + 1)) + 1)), (wrap64 (x5_1 + 1)), sz_, sz_, H', ⟨by have := HK1.out; omega⟩, ⟨by (with_reducible repeat (first | apply Kd.R_alloc | apply Kd.R_drewN | apply Kd.R_drew)); exact HO_0.out⟩, ⟨by repeat (first | (with_reducible first | exact HK.out | apply Kept.alloc | apply Kept.drewN | apply Kept.drew) | exact HK.out)⟩, ⟨ bz⟩⟩
     · rw [if_neg c4] at H
       exact absurd H (by simp)
   · rw [if_neg c3] at H
     have c3b0 : decide (x5_1 < (x0_1.length : Int)) = false := decide_eq_false c3
     clear c3
     simp only [Option.some.injEq, Prod.mk.injEq] at H
     obtain ⟨rfl, rfl⟩ := H
     obtain ⟨Ao18, co18, eo18⟩ := Kd.R_slice HO_0.out
     subst eo18
     go_wp2
     go_ret
     exact ⟨by first | rfl | (simp [errW_none, errW_some] <;> rfl) | (simp [*, errW_none, errW_some] <;> rfl), by (with_reducible repeat (first | apply Kd.R_alloc | apply Kd.R_drewN | apply Kd.R_drew)); exact HO_0.out, bz, by repeat (first | (with_reducible first | exact HK.out | apply Kept.alloc | apply Kept.drewN | apply Kept.drew) | exact HK.out)⟩

set_option linter.unusedVariables false
set_option linter.unusedSimpArgs false

def laws_heldIntervalS.l0 : Nat → List (S113) → Int → Int → Option (Int)
 | 0, _, _, _ => none
 | k + 1, x0, x1, x5 => if x5 < (x0.length : Int) then (if 0 ≤ x5 then (if ((rd_T113 x0 x5).f0) = x1 then (if ((rd_T113 x0 x5).f1) = (wrap64 (x1 + 1)) then (if ((rd_T113 x0 x5).f2) = (wrap64 ((wrap64 (x1 + 1)) + 1)) then (if (((rd_T113 x0 x5).f3) != ((Int.tmod (wrap64 ((wrap64 ((wrap64 (x1 + 1)) + 1)) + 1)) 3) == 0)) = true then (some (-1)) else (laws_heldIntervalS.l0 k x0 (wrap64 ((wrap64 ((wrap64 ((wrap64 (x1 + 1)) + 1)) + 1)) + 1)) (wrap64 (x5 + 1)))) else (some (-1))) else (some (-1))) else (some (-1))) else (none)) else (some x1)
def laws_heldIntervalS.f (k : Nat) (l0 : List (S113)) (a1 : Int) : Option (Int) := laws_heldIntervalS.l0 k l0 a1 0
set_option maxHeartbeats 8000000 in
set_option maxRecDepth 100000 in
theorem laws_heldIntervalS.calls (k : Nat) (A0 : Option Addr) (c0 : Nat) (l0 : List (S113)) (a1 : Int) (r : Int) (w : World) (hr0 : Kd.C k113 w A0 l0.length l0) (hc0 : l0.length ≤ c0) (h : laws_heldIntervalS.f k l0 a1 = some r) :
 Calls Try.prog 27 #[.slice A0 l0.length c0, .int .i64 a1] w fun e w' => e = .returned (.int .i64 r) ∧ Drawn0 w w' := by
 have HR0 := Aside0.mk hr0
 have HC0 := Aside0.mk hc0
 clear hr0 hc0
 have H : (laws_heldIntervalS.l0 k l0 a1 0) = some r := h
 clear h
 have H' := Aside0.mk H
 clear H
 go_enter Try.func27, Try.ntmps27
 go_wp2
 go_loopg [1, 5] k (fun kq v1 v5 w' => ∃ (x1_1 : Int) (x5_1 : Int), v1 = .int .i64 x1_1 ∧ v5 = .int .i64 x5_1 ∧ Aside0 (laws_heldIntervalS.l0 kq l0 x1_1 x5_1 = some r) ∧ Aside0 (kq ≤ k) ∧ Drawn0 w w')
 case atStart => exact ⟨(a1), (0), sz_, sz_, H', ⟨Nat.le_refl _⟩, by repeat (first | exact Drawn0.refl _ | apply Drawn0.step)⟩
 case round =>
  clear H'
  obtain ⟨x1_1, x5_1, rfl, rfl, HA, HK1, ⟨m1, rfl⟩⟩ := hrel
  cases gk with
  | zero => exact absurd HA.out (by simp [laws_heldIntervalS.l0])
  | succ k1 =>
   have H := HA.out
   clear HA
   simp only [laws_heldIntervalS.l0] at H
   by_cases c3 : x5_1 < (l0.length : Int)
   · rw [if_pos c3] at H
     have c3b0 : decide (x5_1 < (l0.length : Int)) = true := decide_eq_true c3
     clear c3
     by_cases c4 : 0 ≤ x5_1
     · rw [if_pos c4] at H
       have c4b0 : decide (0 ≤ x5_1) = true := decide_eq_true c4
       clear c4
       by_cases c5 : ((rd_T113 l0 x5_1).f0) = x1_1
       · rw [if_pos c5] at H
         have c5b0 : (((rd_T113 l0 x5_1).f0) == x1_1) = true := beq_iff_eq.mpr c5
         have c5b1 : (((rd_T113 l0 x5_1).f0) != x1_1) = false := bne_eq_false_iff_eq.mpr c5
         clear c5
         by_cases c6 : ((rd_T113 l0 x5_1).f1) = (wrap64 (x1_1 + 1))
         · rw [if_pos c6] at H
           have c6b0 : (((rd_T113 l0 x5_1).f1) == (wrap64 (x1_1 + 1))) = true := beq_iff_eq.mpr c6
           have c6b1 : (((rd_T113 l0 x5_1).f1) != (wrap64 (x1_1 + 1))) = false := bne_eq_false_iff_eq.mpr c6
           clear c6
           by_cases c7 : ((rd_T113 l0 x5_1).f2) = (wrap64 ((wrap64 (x1_1 + 1)) + 1))
           · rw [if_pos c7] at H
             have c7b0 : (((rd_T113 l0 x5_1).f2) == (wrap64 ((wrap64 (x1_1 + 1)) + 1))) = true := beq_iff_eq.mpr c7
             have c7b1 : (((rd_T113 l0 x5_1).f2) != (wrap64 ((wrap64 (x1_1 + 1)) + 1))) = false := bne_eq_false_iff_eq.mpr c7
             clear c7
             by_cases c8 : (((rd_T113 l0 x5_1).f3) != ((Int.tmod (wrap64 ((wrap64 ((wrap64 (x1_1 + 1)) + 1)) + 1)) 3) == 0)) = true
             · rw [if_pos c8] at H
               have c8b0 : (((rd_T113 l0 x5_1).f3) != ((Int.tmod (wrap64 ((wrap64 ((wrap64 (x1_1 + 1)) + 1)) + 1)) 3) == 0)) = true := c8
               (try (have c8b1 : decide (((rd_T113 l0 x5_1).f3) = ((Int.tmod (wrap64 ((wrap64 ((wrap64 (x1_1 + 1)) + 1)) + 1)) 3) == 0)) = false := by simpa using c8))
               (try (have c8b2 : (((rd_T113 l0 x5_1).f3) == ((Int.tmod (wrap64 ((wrap64 ((wrap64 (x1_1 + 1)) + 1)) + 1)) 3) == 0)) = false := by simpa using c8))
               (try (have c8b3 : ¬ (((rd_T113 l0 x5_1).f3) = ((Int.tmod (wrap64 ((wrap64 ((wrap64 (x1_1 + 1)) + 1)) + 1)) 3) == 0)) := by simpa using c8))
               clear c8
               obtain rfl := Option.some.inj H
               have p526 : 0 ≤ (x5_1 : Int) := of_decide_eq_true az
               have q526 : x5_1 < (l0.length : Int) := of_decide_eq_true az
               obtain ⟨ad526, e526, hx526_0, hx526_1, hx526_2, hx526_3⟩ := at_T113 HR0.out x5_1 p526 q526
               cases e526
               replace p526 := eq_true p526
               replace q526 := eq_true q526
               have p527 : 0 ≤ (x5_1 : Int) := of_decide_eq_true az
               have q527 : x5_1 < (l0.length : Int) := of_decide_eq_true az
               obtain ⟨ad527, e527, hx527_0, hx527_1, hx527_2, hx527_3⟩ := at_T113 HR0.out x5_1 p527 q527
               obtain rfl : ad526 = ad527 := (by injection e527)
               replace p527 := eq_true p527
               replace q527 := eq_true q527
               have p528 : 0 ≤ (x5_1 : Int) := of_decide_eq_true az
               have q528 : x5_1 < (l0.length : Int) := of_decide_eq_true az
               obtain ⟨ad528, e528, hx528_0, hx528_1, hx528_2, hx528_3⟩ := at_T113 HR0.out x5_1 p528 q528
               obtain rfl : ad526 = ad528 := (by injection e528)
               replace p528 := eq_true p528
               replace q528 := eq_true q528
               have p529 : 0 ≤ (x5_1 : Int) := of_decide_eq_true az
               have q529 : x5_1 < (l0.length : Int) := of_decide_eq_true az
               obtain ⟨ad529, e529, hx529_0, hx529_1, hx529_2, hx529_3⟩ := at_T113 HR0.out x5_1 p529 q529
               obtain rfl : ad526 = ad529 := (by injection e529)
               replace p529 := eq_true p529
               replace q529 := eq_true q529
               go_wp2
               go_ret
               exact ⟨by first | rfl | (simp; done) | (simp [*]; done), by repeat (first | exact Drawn0.refl _ | apply Drawn0.step)⟩
             · rw [if_neg c8] at H
               have c8b0 : (((rd_T113 l0 x5_1).f3) != ((Int.tmod (wrap64 ((wrap64 ((wrap64 (x1_1 + 1)) + 1)) + 1)) 3) == 0)) = false := by simpa using c8
               (try (have c8b1 : decide (((rd_T113 l0 x5_1).f3) = ((Int.tmod (wrap64 ((wrap64 ((wrap64 (x1_1 + 1)) + 1)) + 1)) 3) == 0)) = true := by simpa using c8))
               (try (have c8b2 : (((rd_T113 l0 x5_1).f3) == ((Int.tmod (wrap64 ((wrap64 ((wrap64 (x1_1 + 1)) + 1)) + 1)) 3) == 0)) = true := by simpa using c8))
               clear c8
               have H' := Aside0.mk H
               clear H
               have p526 : 0 ≤ (x5_1 : Int) := of_decide_eq_true az
               have q526 : x5_1 < (l0.length : Int) := of_decide_eq_true az
               obtain ⟨ad526, e526, hx526_0, hx526_1, hx526_2, hx526_3⟩ := at_T113 HR0.out x5_1 p526 q526
               cases e526
               replace p526 := eq_true p526
               replace q526 := eq_true q526
               have p527 : 0 ≤ (x5_1 : Int) := of_decide_eq_true az
               have q527 : x5_1 < (l0.length : Int) := of_decide_eq_true az
               obtain ⟨ad527, e527, hx527_0, hx527_1, hx527_2, hx527_3⟩ := at_T113 HR0.out x5_1 p527 q527
               obtain rfl : ad526 = ad527 := (by injection e527)
               replace p527 := eq_true p527
               replace q527 := eq_true q527
               have p528 : 0 ≤ (x5_1 : Int) := of_decide_eq_true az
               have q528 : x5_1 < (l0.length : Int) := of_decide_eq_true az
               obtain ⟨ad528, e528, hx528_0, hx528_1, hx528_2, hx528_3⟩ := at_T113 HR0.out x5_1 p528 q528
               obtain rfl : ad526 = ad528 := (by injection e528)
               replace p528 := eq_true p528
               replace q528 := eq_true q528
               have p529 : 0 ≤ (x5_1 : Int) := of_decide_eq_true az
               have q529 : x5_1 < (l0.length : Int) := of_decide_eq_true az
               obtain ⟨ad529, e529, hx529_0, hx529_1, hx529_2, hx529_3⟩ := at_T113 HR0.out x5_1 p529 q529
               obtain rfl : ad526 = ad529 := (by injection e529)
               replace p529 := eq_true p529
               replace q529 := eq_true q529
               go_wp2
               go_roundg k1
               case measure => have := HK1.out; omega
               case rel => exact ⟨(wrap64 ((wrap64 ((wrap64 ((wrap64 (x1_1 + 1)) + 1)) + 1)) + 1)), (wrap64 (x5_1 + 1)), sz_, sz_, H', ⟨by have := HK1.out; omega⟩, by repeat (first | exact Drawn0.refl _ | apply Drawn0.step)⟩
           · rw [if_neg c7] at H
             have c7b0 : (((rd_T113 l0 x5_1).f2) == (wrap64 ((wrap64 (x1_1 + 1)) + 1))) = false := beq_eq_false_iff_ne.mpr c7
             have c7b1 : (((rd_T113 l0 x5_1).f2) != (wrap64 ((wrap64 (x1_1 + 1)) + 1))) = true := bne_iff_ne.mpr c7
             obtain rfl := Option.some.inj H
             have p526 : 0 ≤ (x5_1 : Int) := of_decide_eq_true az
             have q526 : x5_1 < (l0.length : Int) := of_decide_eq_true az
             obtain ⟨ad526, e526, hx526_0, hx526_1, hx526_2, hx526_3⟩ := at_T113 HR0.out x5_1 p526 q526
             cases e526
             replace p526 := eq_true p526
             replace q526 := eq_true q526
             have p527 : 0 ≤ (x5_1 : Int) := of_decide_eq_true az
             have q527 : x5_1 < (l0.length : Int) := of_decide_eq_true az
             obtain ⟨ad527, e527, hx527_0, hx527_1, hx527_2, hx527_3⟩ := at_T113 HR0.out x5_1 p527 q527
             obtain rfl : ad526 = ad527 := (by injection e527)
             replace p527 := eq_true p527
             replace q527 := eq_true q527
             have p528 : 0 ≤ (x5_1 : Int) := of_decide_eq_true az
             have q528 : x5_1 < (l0.length : Int) := of_decide_eq_true az
             obtain ⟨ad528, e528, hx528_0, hx528_1, hx528_2, hx528_3⟩ := at_T113 HR0.out x5_1 p528 q528
             obtain rfl : ad526 = ad528 := (by injection e528)
             replace p528 := eq_true p528
             replace q528 := eq_true q528
             go_wp2
             go_ret
             exact ⟨by first | rfl | (simp; done) | (simp [*]; done), by repeat (first | exact Drawn0.refl _ | apply Drawn0.step)⟩
         · rw [if_neg c6] at H
           have c6b0 : (((rd_T113 l0 x5_1).f1) == (wrap64 (x1_1 + 1))) = false := beq_eq_false_iff_ne.mpr c6
           have c6b1 : (((rd_T113 l0 x5_1).f1) != (wrap64 (x1_1 + 1))) = true := bne_iff_ne.mpr c6
           obtain rfl := Option.some.inj H
           have p526 : 0 ≤ (x5_1 : Int) := of_decide_eq_true az
           have q526 : x5_1 < (l0.length : Int) := of_decide_eq_true az
           obtain ⟨ad526, e526, hx526_0, hx526_1, hx526_2, hx526_3⟩ := at_T113 HR0.out x5_1 p526 q526
           cases e526
           replace p526 := eq_true p526
           replace q526 := eq_true q526
           have p527 : 0 ≤ (x5_1 : Int) := of_decide_eq_true az
           have q527 : x5_1 < (l0.length : Int) := of_decide_eq_true az
           obtain ⟨ad527, e527, hx527_0, hx527_1, hx527_2, hx527_3⟩ := at_T113 HR0.out x5_1 p527 q527
           obtain rfl : ad526 = ad527 := (by injection e527)
           replace p527 := eq_true p527
           replace q527 := eq_true q527
           go_wp2
           go_ret
           exact ⟨by first | rfl | (simp; done) | (simp [*]; done), by repeat (first | exact Drawn0.refl _ | apply Drawn0.step)⟩
       · rw [if_neg c5] at H
         have c5b0 : (((rd_T113 l0 x5_1).f0) == x1_1) = false := beq_eq_false_iff_ne.mpr c5
         have c5b1 : (((rd_T113 l0 x5_1).f0) != x1_1) = true := bne_iff_ne.mpr c5
         obtain rfl := Option.some.inj H
         have p526 : 0 ≤ (x5_1 : Int) := of_decide_eq_true az
         have q526 : x5_1 < (l0.length : Int) := of_decide_eq_true az
         obtain ⟨ad526, e526, hx526_0, hx526_1, hx526_2, hx526_3⟩ := at_T113 HR0.out x5_1 p526 q526
         cases e526
         replace p526 := eq_true p526
         replace q526 := eq_true q526
         go_wp2
         go_ret
         exact ⟨by first | rfl | (simp; done) | (simp [*]; done), by repeat (first | exact Drawn0.refl _ | apply Drawn0.step)⟩
     · rw [if_neg c4] at H
       exact absurd H (by simp)
   · rw [if_neg c3] at H
     have c3b0 : decide (x5_1 < (l0.length : Int)) = false := decide_eq_false c3
     clear c3
     obtain rfl := Option.some.inj H
     go_wp2
     go_ret
     exact ⟨by first | rfl | (simp; done) | (simp [*]; done), by repeat (first | exact Drawn0.refl _ | apply Drawn0.step)⟩

set_option linter.unusedVariables false
set_option linter.unusedSimpArgs false

def laws_FnExactIntervals.j0 : Nat → List (S113) → List (S113) → Bool → Int → List Int → List (S165) → Option (Bool)
 | 0, _, _, _, _, _, _ => none
 | k + 1, x4, x6, x42, x531000, x531001, x531002 => if x42 = true then (some false) else ((laws_markIntervalS.f k x6 1).bind fun bt564 => ((laws_heldIntervalS.f k bt564.2 1).bind fun t566 => (if t566 < 0 then (some false) else (if t566 = bt564.1 then ((laws_toVFunc.f k x531000 x531001 x531002).bind fun bt567 => ((impl_Intervals.f k bt567.1 bt567.2.1 bt567.2.2).bind fun t574 => ((laws_eqIntervalS.f k t574 x4).bind fun t577 => (if t577 = true then ((laws_heldIntervalS.f k bt564.2 1).bind fun t578 => (if t578 < 0 then (some false) else (if t578 = bt564.1 then (some true) else (some false)))) else (some false))))) else (some false)))))
def laws_FnExactIntervals.f (k : Nat) (a0_0 : Int) (l0_1 : List Int) (l0_2 : List (S165)) : Option (Bool) := (laws_szVFunc.f k a0_0 l0_1 l0_2 1048576).bind fun t531 => (if t531 < 0 then (some true) else ((laws_toVFunc.f k a0_0 l0_1 l0_2).bind fun bt532 => ((spec_Intervals.f k bt532.1 bt532.2.1 bt532.2.2).bind fun t539 => ((laws_toVFunc.f k a0_0 l0_1 l0_2).bind fun bt542 => ((impl_Intervals.f k bt542.1 bt542.2.1 bt542.2.2).bind fun t550 => ((laws_eqIntervalS.f k t550 t539).bind fun t553 => (if t553 = true then ((laws_toVFunc.f k a0_0 l0_1 l0_2).bind fun bt554 => ((laws_eqVFunc.f k bt542.1 bt542.2.1 bt542.2.2 bt554.1 bt554.2.1 bt554.2.2).bind fun t561 => (if t561 = true then ((laws_markVFunc.f bt542.1 bt542.2.1 bt542.2.2 1).bind fun t562 => (if t562 < 0 then (laws_FnExactIntervals.j0 k t539 t550 true a0_0 l0_1 l0_2) else ((laws_eqIntervalS.f k t550 t539).bind fun t563 => (laws_FnExactIntervals.j0 k t539 t550 (!t563) a0_0 l0_1 l0_2)))) else (some false)))) else (some false))))))))
set_option maxHeartbeats 8000000 in
set_option maxRecDepth 100000 in
theorem laws_FnExactIntervals.calls (k : Nat) (a0_0 : Int) (A0_1 : Option Addr) (c0_1 : Nat) (l0_1 : List Int) (A0_2 : Option Addr) (c0_2 : Nat) (l0_2 : List (S165)) (r : Bool) (w : World) (hr0_1 : Kd.C (Kd.int .i64) w A0_1 l0_1.length l0_1) (hc0_1 : l0_1.length ≤ c0_1) (hr0_2 : Kd.C k165 w A0_2 l0_2.length l0_2) (hc0_2 : l0_2.length ≤ c0_2) (h : laws_FnExactIntervals.f k a0_0 l0_1 l0_2 = some r) (hr_ : Aside0 (r = true)) :
 Calls Try.prog 5 #[.agg #[.int .i64 a0_0, .slice A0_1 l0_1.length c0_1, .slice A0_2 l0_2.length c0_2]] w fun e w' => e = .returned (.bool r) ∧ Below w.heap.size w w' := by
 have hu25 := Try.underlying25
 have hu29 := Try.underlying29
 have HR0_1 := Aside0.mk hr0_1
 have HC0_1 := Aside0.mk hc0_1
 clear hr0_1 hc0_1
 have HR0_2 := Aside0.mk hr0_2
 have HC0_2 := Aside0.mk hc0_2
 clear hr0_2 hc0_2
 have HB := Aside0.mk (Below.refl w.heap.size w)
 have H : ((laws_szVFunc.f k a0_0 l0_1 l0_2 1048576).bind fun t531 => (if t531 < 0 then (some true) else ((laws_toVFunc.f k a0_0 l0_1 l0_2).bind fun bt532 => ((spec_Intervals.f k bt532.1 bt532.2.1 bt532.2.2).bind fun t539 => ((laws_toVFunc.f k a0_0 l0_1 l0_2).bind fun bt542 => ((impl_Intervals.f k bt542.1 bt542.2.1 bt542.2.2).bind fun t550 => ((laws_eqIntervalS.f k t550 t539).bind fun t553 => (if t553 = true then ((laws_toVFunc.f k a0_0 l0_1 l0_2).bind fun bt554 => ((laws_eqVFunc.f k bt542.1 bt542.2.1 bt542.2.2 bt554.1 bt554.2.1 bt554.2.2).bind fun t561 => (if t561 = true then ((laws_markVFunc.f bt542.1 bt542.2.1 bt542.2.2 1).bind fun t562 => (if t562 < 0 then (laws_FnExactIntervals.j0 k t539 t550 true a0_0 l0_1 l0_2) else ((laws_eqIntervalS.f k t550 t539).bind fun t563 => (laws_FnExactIntervals.j0 k t539 t550 (!t563) a0_0 l0_1 l0_2)))) else (some false)))) else (some false))))))))) = some r := h
 clear h
 replace H := Option.bind_eq_some_iff.mp H
 obtain ⟨t531, A20, H⟩ := H
 replace H : (if t531 < 0 then (some true) else ((laws_toVFunc.f k a0_0 l0_1 l0_2).bind fun bt532 => ((spec_Intervals.f k bt532.1 bt532.2.1 bt532.2.2).bind fun t539 => ((laws_toVFunc.f k a0_0 l0_1 l0_2).bind fun bt542 => ((impl_Intervals.f k bt542.1 bt542.2.1 bt542.2.2).bind fun t550 => ((laws_eqIntervalS.f k t550 t539).bind fun t553 => (if t553 = true then ((laws_toVFunc.f k a0_0 l0_1 l0_2).bind fun bt554 => ((laws_eqVFunc.f k bt542.1 bt542.2.1 bt542.2.2 bt554.1 bt554.2.1 bt554.2.2).bind fun t561 => (if t561 = true then ((laws_markVFunc.f bt542.1 bt542.2.1 bt542.2.2 1).bind fun t562 => (if t562 < 0 then (laws_FnExactIntervals.j0 k t539 t550 true a0_0 l0_1 l0_2) else ((laws_eqIntervalS.f k t550 t539).bind fun t563 => (laws_FnExactIntervals.j0 k t539 t550 (!t563) a0_0 l0_1 l0_2)))) else (some false)))) else (some false)))))))) = some r := H
 have A2 := Aside0.mk A20
 clear A20
 by_cases c3 : t531 < 0
 · rw [if_pos c3] at H
   have c3b0 : decide (t531 < 0) = true := decide_eq_true c3
   clear c3
   obtain rfl := Option.some.inj H
   go_enter Try.func5, Try.ntmps5
   go_wp2_with (first | ((with_reducible refine gate_dst (N := 1) rfl ?_); refine box_event ?hg (N := 1) ?hd (cs := #[.int .i64 a0_0, .slice A0_1 l0_1.length c0_1, .slice A0_2 l0_2.length c0_2]) (t := 25) ?hr ?_; (case hd => rfl); (case hg => rfl); (case hr => first | (go_simp; done) | (go_simp; rfl)); intro gb530 hg w4 hbox hb; have n0_ := Aside0.mk (below_step bz hb); have n1_ := Aside0.mk (hbox); have n2_ := Aside0.mk ((by rw [hg]; exact (below_size bz) : w.heap.size ≤ gb530)); have n3_ := Aside0.mk ((by rw [hg]; exact (below_size bz) : w.heap.size ≤ gb530)); clear HB; have HB := n0_; have BK530 := n1_; have GW530 := n2_; have GE530 := n3_; clear n0_ n1_ n2_ n3_; clear hb hbox hg; have hcz5_0 : w4.cell? ⟨gb530, 0, none⟩ = some (.int .i64 a0_0) := (blk_cell BK530.out 0).trans rfl; have hcz5_1 : w4.cell? ⟨gb530, 1, none⟩ = some (.slice A0_1 l0_1.length c0_1) := (blk_cell BK530.out 1).trans rfl; have hcz5_2 : w4.cell? ⟨gb530, 2, none⟩ = some (.slice A0_2 l0_2.length c0_2) := (blk_cell BK530.out 2).trans rfl; have hfz5_0 := blk_frozen BK530.out 0; have hfz5_1 := blk_frozen BK530.out 1; have hfz5_2 := blk_frozen BK530.out 2) | ((with_reducible refine gate_callee (f := 11) rfl ?_); refine goesL_ (some 13) rfl rfl Try.func11 (by kernel_rfl) rfl #[.agg #[.int .i64 a0_0, .slice A0_1 l0_1.length c0_1, .slice A0_2 l0_2.length c0_2], .int .i64 1048576] rfl lz ?_; (with_reducible refine (laws_szVFunc.calls k a0_0 _ _ l0_1 _ _ l0_2 1048576 t531 _ ?side1 ?side2 ?side3 ?side4 A2.out).mono ?_); (case side1 => exact cz HR0_1.out); (case side2 => exact HC0_1.out); (case side3 => exact cz HR0_2.out); (case side4 => exact HC0_2.out); rintro e w6 ⟨rfl, hb⟩; refine ⟨_, rfl, ?_⟩; have n0_ := Aside0.mk (blk_below (g := gb530) (o := .cells #[.int .i64 a0_0, .slice A0_1 l0_1.length c0_1, .slice A0_2 l0_2.length c0_2] 25 (0, 0)) kz hb); have n1_ := Aside0.mk (below_step bz hb); clear BK530; clear HB; have BK530 := n0_; have HB := n1_; clear n0_ n1_; (try clear hb); (try clear hb2); (try clear hk); (try clear hi)))
   go_ret
   exact ⟨by first | rfl | (simp [errW_none, errW_some] <;> rfl) | (simp [*, errW_none, errW_some] <;> rfl), bz⟩
 · rw [if_neg c3] at H
   have c3b0 : decide (t531 < 0) = false := decide_eq_false c3
   clear c3
   replace H := Option.bind_eq_some_iff.mp H
   obtain ⟨⟨t532, t533, t536⟩, A70, H⟩ := H
   replace H : ((spec_Intervals.f k t532 t533 t536).bind fun t539 => ((laws_toVFunc.f k a0_0 l0_1 l0_2).bind fun bt542 => ((impl_Intervals.f k bt542.1 bt542.2.1 bt542.2.2).bind fun t550 => ((laws_eqIntervalS.f k t550 t539).bind fun t553 => (if t553 = true then ((laws_toVFunc.f k a0_0 l0_1 l0_2).bind fun bt554 => ((laws_eqVFunc.f k bt542.1 bt542.2.1 bt542.2.2 bt554.1 bt554.2.1 bt554.2.2).bind fun t561 => (if t561 = true then ((laws_markVFunc.f bt542.1 bt542.2.1 bt542.2.2 1).bind fun t562 => (if t562 < 0 then (laws_FnExactIntervals.j0 k t539 t550 true a0_0 l0_1 l0_2) else ((laws_eqIntervalS.f k t550 t539).bind fun t563 => (laws_FnExactIntervals.j0 k t539 t550 (!t563) a0_0 l0_1 l0_2)))) else (some false)))) else (some false)))))) = some r := H
   have A7 := Aside0.mk A70
   clear A70
   replace H := Option.bind_eq_some_iff.mp H
   obtain ⟨t539, A80, H⟩ := H
   replace H : ((laws_toVFunc.f k a0_0 l0_1 l0_2).bind fun bt542 => ((impl_Intervals.f k bt542.1 bt542.2.1 bt542.2.2).bind fun t550 => ((laws_eqIntervalS.f k t550 t539).bind fun t553 => (if t553 = true then ((laws_toVFunc.f k a0_0 l0_1 l0_2).bind fun bt554 => ((laws_eqVFunc.f k bt542.1 bt542.2.1 bt542.2.2 bt554.1 bt554.2.1 bt554.2.2).bind fun t561 => (if t561 = true then ((laws_markVFunc.f bt542.1 bt542.2.1 bt542.2.2 1).bind fun t562 => (if t562 < 0 then (laws_FnExactIntervals.j0 k t539 t550 true a0_0 l0_1 l0_2) else ((laws_eqIntervalS.f k t550 t539).bind fun t563 => (laws_FnExactIntervals.j0 k t539 t550 (!t563) a0_0 l0_1 l0_2)))) else (some false)))) else (some false))))) = some r := H
   have A8 := Aside0.mk A80
   clear A80
   replace H := Option.bind_eq_some_iff.mp H
   obtain ⟨⟨t542, t543, t546⟩, A90, H⟩ := H
   replace H : ((impl_Intervals.f k t542 t543 t546).bind fun t550 => ((laws_eqIntervalS.f k t550 t539).bind fun t553 => (if t553 = true then ((laws_toVFunc.f k a0_0 l0_1 l0_2).bind fun bt554 => ((laws_eqVFunc.f k t542 t543 t546 bt554.1 bt554.2.1 bt554.2.2).bind fun t561 => (if t561 = true then ((laws_markVFunc.f t542 t543 t546 1).bind fun t562 => (if t562 < 0 then (laws_FnExactIntervals.j0 k t539 t550 true a0_0 l0_1 l0_2) else ((laws_eqIntervalS.f k t550 t539).bind fun t563 => (laws_FnExactIntervals.j0 k t539 t550 (!t563) a0_0 l0_1 l0_2)))) else (some false)))) else (some false)))) = some r := H
   have A9 := Aside0.mk A90
   clear A90
   replace H := Option.bind_eq_some_iff.mp H
   obtain ⟨t550, A100, H⟩ := H
   replace H : ((laws_eqIntervalS.f k t550 t539).bind fun t553 => (if t553 = true then ((laws_toVFunc.f k a0_0 l0_1 l0_2).bind fun bt554 => ((laws_eqVFunc.f k t542 t543 t546 bt554.1 bt554.2.1 bt554.2.2).bind fun t561 => (if t561 = true then ((laws_markVFunc.f t542 t543 t546 1).bind fun t562 => (if t562 < 0 then (laws_FnExactIntervals.j0 k t539 t550 true a0_0 l0_1 l0_2) else ((laws_eqIntervalS.f k t550 t539).bind fun t563 => (laws_FnExactIntervals.j0 k t539 t550 (!t563) a0_0 l0_1 l0_2)))) else (some false)))) else (some false))) = some r := H
   have A10 := Aside0.mk A100
   clear A100
   replace H := Option.bind_eq_some_iff.mp H
   obtain ⟨t553, A110, H⟩ := H
   replace H : (if t553 = true then ((laws_toVFunc.f k a0_0 l0_1 l0_2).bind fun bt554 => ((laws_eqVFunc.f k t542 t543 t546 bt554.1 bt554.2.1 bt554.2.2).bind fun t561 => (if t561 = true then ((laws_markVFunc.f t542 t543 t546 1).bind fun t562 => (if t562 < 0 then (laws_FnExactIntervals.j0 k t539 t550 true a0_0 l0_1 l0_2) else ((laws_eqIntervalS.f k t550 t539).bind fun t563 => (laws_FnExactIntervals.j0 k t539 t550 (!t563) a0_0 l0_1 l0_2)))) else (some false)))) else (some false)) = some r := H
   have A11 := Aside0.mk A110
   clear A110
   by_cases c12 : t553 = true
   · subst c12
     have H1 : ((laws_toVFunc.f k a0_0 l0_1 l0_2).bind fun bt554 => ((laws_eqVFunc.f k t542 t543 t546 bt554.1 bt554.2.1 bt554.2.2).bind fun t561 => (if t561 = true then ((laws_markVFunc.f t542 t543 t546 1).bind fun t562 => (if t562 < 0 then (laws_FnExactIntervals.j0 k t539 t550 true a0_0 l0_1 l0_2) else ((laws_eqIntervalS.f k t550 t539).bind fun t563 => (laws_FnExactIntervals.j0 k t539 t550 (!t563) a0_0 l0_1 l0_2)))) else (some false)))) = some r := by rw [if_pos rfl] at H; exact H
     clear H
     have H := H1
     clear H1
     replace H := Option.bind_eq_some_iff.mp H
     obtain ⟨⟨t554, t555, t558⟩, A130, H⟩ := H
     replace H : ((laws_eqVFunc.f k t542 t543 t546 t554 t555 t558).bind fun t561 => (if t561 = true then ((laws_markVFunc.f t542 t543 t546 1).bind fun t562 => (if t562 < 0 then (laws_FnExactIntervals.j0 k t539 t550 true a0_0 l0_1 l0_2) else ((laws_eqIntervalS.f k t550 t539).bind fun t563 => (laws_FnExactIntervals.j0 k t539 t550 (!t563) a0_0 l0_1 l0_2)))) else (some false))) = some r := H
     have A13 := Aside0.mk A130
     clear A130
     replace H := Option.bind_eq_some_iff.mp H
     obtain ⟨t561, A140, H⟩ := H
     replace H : (if t561 = true then ((laws_markVFunc.f t542 t543 t546 1).bind fun t562 => (if t562 < 0 then (laws_FnExactIntervals.j0 k t539 t550 true a0_0 l0_1 l0_2) else ((laws_eqIntervalS.f k t550 t539).bind fun t563 => (laws_FnExactIntervals.j0 k t539 t550 (!t563) a0_0 l0_1 l0_2)))) else (some false)) = some r := H
     have A14 := Aside0.mk A140
     clear A140
     by_cases c15 : t561 = true
     · subst c15
       have H1 : ((laws_markVFunc.f t542 t543 t546 1).bind fun t562 => (if t562 < 0 then (laws_FnExactIntervals.j0 k t539 t550 true a0_0 l0_1 l0_2) else ((laws_eqIntervalS.f k t550 t539).bind fun t563 => (laws_FnExactIntervals.j0 k t539 t550 (!t563) a0_0 l0_1 l0_2)))) = some r := by rw [if_pos rfl] at H; exact H
       clear H
       have H := H1
       clear H1
       replace H := Option.bind_eq_some_iff.mp H
       obtain ⟨t562, A160, H⟩ := H
       replace H : (if t562 < 0 then (laws_FnExactIntervals.j0 k t539 t550 true a0_0 l0_1 l0_2) else ((laws_eqIntervalS.f k t550 t539).bind fun t563 => (laws_FnExactIntervals.j0 k t539 t550 (!t563) a0_0 l0_1 l0_2))) = some r := H
       have A16 := Aside0.mk A160
       clear A160
       have HC17 := Aside0.mk H
       clear H
       go_enter Try.func5, Try.ntmps5
       try go_wp2_with (first | ((with_reducible refine gate_dst (N := 1) rfl ?_); refine box_event ?hg (N := 1) ?hd (cs := #[.int .i64 a0_0, .slice A0_1 l0_1.length c0_1, .slice A0_2 l0_2.length c0_2]) (t := 25) ?hr ?_; (case hd => rfl); (case hg => rfl); (case hr => first | (go_simp; done) | (go_simp; rfl)); intro gb530 hg w18 hbox hb; have n0_ := Aside0.mk (below_step bz hb); have n1_ := Aside0.mk (hbox); have n2_ := Aside0.mk ((by rw [hg]; exact (below_size bz) : w.heap.size ≤ gb530)); have n3_ := Aside0.mk ((by rw [hg]; exact (below_size bz) : w.heap.size ≤ gb530)); clear HB; have HB := n0_; have BK530 := n1_; have GW530 := n2_; have GE530 := n3_; clear n0_ n1_ n2_ n3_; clear hb hbox hg; have hcz19_0 : w18.cell? ⟨gb530, 0, none⟩ = some (.int .i64 a0_0) := (blk_cell BK530.out 0).trans rfl; have hcz19_1 : w18.cell? ⟨gb530, 1, none⟩ = some (.slice A0_1 l0_1.length c0_1) := (blk_cell BK530.out 1).trans rfl; have hcz19_2 : w18.cell? ⟨gb530, 2, none⟩ = some (.slice A0_2 l0_2.length c0_2) := (blk_cell BK530.out 2).trans rfl; have hfz19_0 := blk_frozen BK530.out 0; have hfz19_1 := blk_frozen BK530.out 1; have hfz19_2 := blk_frozen BK530.out 2) | ((with_reducible refine gate_callee (f := 11) rfl ?_); refine goesL_ (some 13) rfl rfl Try.func11 (by kernel_rfl) rfl #[.agg #[.int .i64 a0_0, .slice A0_1 l0_1.length c0_1, .slice A0_2 l0_2.length c0_2], .int .i64 1048576] rfl lz ?_; (with_reducible refine (laws_szVFunc.calls k a0_0 _ _ l0_1 _ _ l0_2 1048576 t531 _ ?side1 ?side2 ?side3 ?side4 A2.out).mono ?_); (case side1 => exact cz HR0_1.out); (case side2 => exact HC0_1.out); (case side3 => exact cz HR0_2.out); (case side4 => exact HC0_2.out); rintro e w20 ⟨rfl, hb⟩; refine ⟨_, rfl, ?_⟩; have n0_ := Aside0.mk (blk_below (g := gb530) (o := .cells #[.int .i64 a0_0, .slice A0_1 l0_1.length c0_1, .slice A0_2 l0_2.length c0_2] 25 (0, 0)) kz hb); have n1_ := Aside0.mk (below_step bz hb); clear BK530; clear HB; have BK530 := n0_; have HB := n1_; clear n0_ n1_; (try clear hb); (try clear hb2); (try clear hk); (try clear hi); have hcz21_0 : w20.cell? ⟨gb530, 0, none⟩ = some (.int .i64 a0_0) := (blk_cell BK530.out 0).trans rfl; have hcz21_1 : w20.cell? ⟨gb530, 1, none⟩ = some (.slice A0_1 l0_1.length c0_1) := (blk_cell BK530.out 1).trans rfl; have hcz21_2 : w20.cell? ⟨gb530, 2, none⟩ = some (.slice A0_2 l0_2.length c0_2) := (blk_cell BK530.out 2).trans rfl; have hfz21_0 := blk_frozen BK530.out 0; have hfz21_1 := blk_frozen BK530.out 1; have hfz21_2 := blk_frozen BK530.out 2) | ((with_reducible refine gate_callee (f := 13) rfl ?_); refine goesL_ (some 17) rfl rfl Try.func13 (by kernel_rfl) rfl #[.agg #[.int .i64 a0_0, .slice A0_1 l0_1.length c0_1, .slice A0_2 l0_2.length c0_2]] rfl lz ?_; (with_reducible refine (laws_toVFunc.calls k a0_0 _ _ l0_1 _ _ l0_2 t532 t533 t536 _ ?side1 ?side2 ?side3 ?side4 A7.out).mono ?_); (case side1 => exact cz HR0_1.out); (case side2 => exact HC0_1.out); (case side3 => exact cz HR0_2.out); (case side4 => exact HC0_2.out); rintro e w22 ⟨v534, v537, rfl, ho0, ho1, hb⟩; refine ⟨_, rfl, ?_⟩; have n0_ := Aside0.mk (Kd.R_lower ho0 (below_size bz)); have n1_ := Aside0.mk (Kd.R_lower ho1 (below_size bz)); have n2_ := Aside0.mk (blk_below (g := gb530) (o := .cells #[.int .i64 a0_0, .slice A0_1 l0_1.length c0_1, .slice A0_2 l0_2.length c0_2] 25 (0, 0)) kz hb); have n3_ := Aside0.mk (below_step bz hb); clear BK530; clear HB; have HO535 := n0_; have HO538 := n1_; have BK530 := n2_; have HB := n3_; clear n0_ n1_ n2_ n3_; (try clear hb); (try clear hb2); (try clear hk); (try clear hi); (try clear ho0); (try clear ho1); obtain ⟨Ao23, co23, eo23⟩ := Kd.R_slice HO535.out; subst eo23; obtain ⟨Ao24, co24, eo24⟩ := Kd.R_slice HO538.out; subst eo24) | ((with_reducible refine gate_callee (f := 23) rfl ?_); refine goesL_ (some 18) rfl rfl Try.func23 (by kernel_rfl) rfl #[.agg #[.int .i64 t532, .slice Ao23 t533.length co23, .slice Ao24 t536.length co24]] rfl lz ?_; (with_reducible refine (spec_Intervals.calls k t532 _ _ t533 _ _ t536 t539 _ ?side1 ?side2 ?side3 ?side4 A8.out).mono ?_); (case side1 => repeat (first | exact (Kd.R_reads' HO535.out).2.2 | (with_reducible refine Kd.C_alloc ?_ _) | (with_reducible refine Kd.C_drewN ?_ _) | (with_reducible refine Kd.C_drew ?_))); (case side2 => exact (Kd.R_reads' HO535.out).2.1); (case side3 => repeat (first | exact (Kd.R_reads' HO538.out).2.2 | (with_reducible refine Kd.C_alloc ?_ _) | (with_reducible refine Kd.C_drewN ?_ _) | (with_reducible refine Kd.C_drew ?_))); (case side4 => exact (Kd.R_reads' HO538.out).2.1); rintro e w25 ⟨v540, rfl, ho0, hb⟩; refine ⟨_, rfl, ?_⟩; have n0_ := Aside0.mk (Kd.R_below (rz HO535.out) hb); have n1_ := Aside0.mk (Kd.R_below (rz HO538.out) hb); have n2_ := Aside0.mk (Kd.R_lower ho0 (below_size bz)); have n3_ := Aside0.mk (blk_below (g := gb530) (o := .cells #[.int .i64 a0_0, .slice A0_1 l0_1.length c0_1, .slice A0_2 l0_2.length c0_2] 25 (0, 0)) kz hb); have n4_ := Aside0.mk (below_step bz hb); clear HO535; clear HO538; clear BK530; clear HB; have HO535 := n0_; have HO538 := n1_; have HO541 := n2_; have BK530 := n3_; have HB := n4_; clear n0_ n1_ n2_ n3_ n4_; (try clear hb); (try clear hb2); (try clear hk); (try clear hi); (try clear ho0); have hcz26_0 : w25.cell? ⟨gb530, 0, none⟩ = some (.int .i64 a0_0) := (blk_cell BK530.out 0).trans rfl; have hcz26_1 : w25.cell? ⟨gb530, 1, none⟩ = some (.slice A0_1 l0_1.length c0_1) := (blk_cell BK530.out 1).trans rfl; have hcz26_2 : w25.cell? ⟨gb530, 2, none⟩ = some (.slice A0_2 l0_2.length c0_2) := (blk_cell BK530.out 2).trans rfl; have hfz26_0 := blk_frozen BK530.out 0; have hfz26_1 := blk_frozen BK530.out 1; have hfz26_2 := blk_frozen BK530.out 2) | ((with_reducible refine gate_callee (f := 13) rfl ?_); refine goesL_ (some 20) rfl rfl Try.func13 (by kernel_rfl) rfl #[.agg #[.int .i64 a0_0, .slice A0_1 l0_1.length c0_1, .slice A0_2 l0_2.length c0_2]] rfl lz ?_; (with_reducible refine (laws_toVFunc.calls k a0_0 _ _ l0_1 _ _ l0_2 t542 t543 t546 _ ?side1 ?side2 ?side3 ?side4 A9.out).mono ?_); (case side1 => exact cz HR0_1.out); (case side2 => exact HC0_1.out); (case side3 => exact cz HR0_2.out); (case side4 => exact HC0_2.out); rintro e w27 ⟨v544, v547, rfl, ho0, ho1, hb⟩; refine ⟨_, rfl, ?_⟩; have n0_ := Aside0.mk (Kd.R_elder' (rz HO535.out) (Kd.R_base ho0) hb); have n1_ := Aside0.mk (Kd.R_mono (Kd.R_told (Kd.R_told (Kd.R_old (rz HO538.out) hb) (Kd.R_base ho0)) (Kd.R_base ho1)) (fun _ h_ => h_.1)); have n2_ := Aside0.mk (Kd.R_below (rz HO541.out) hb); have n3_ := Aside0.mk (Kd.R_lower (Kd.R_new' ho0 (Kd.R_lt (rz HO535.out))) (below_size bz)); have n4_ := Aside0.mk (Kd.R_lower (Kd.R_new' (Kd.R_new' ho1 (Kd.R_lt (rz HO535.out))) (Kd.R_lt (rz HO538.out))) (below_size bz)); have n5_ := Aside0.mk (blk_below (g := gb530) (o := .cells #[.int .i64 a0_0, .slice A0_1 l0_1.length c0_1, .slice A0_2 l0_2.length c0_2] 25 (0, 0)) kz hb); have n6_ := Aside0.mk (below_step bz hb); clear HO535; clear HO538; clear HO541; clear BK530; clear HB; have HO535 := n0_; have HO538 := n1_; have HO541 := n2_; have HO545 := n3_; have HO548 := n4_; have BK530 := n5_; have HB := n6_; clear n0_ n1_ n2_ n3_ n4_ n5_ n6_; (try clear hb); (try clear hb2); (try clear hk); (try clear hi); (try clear ho0); (try clear ho1)) | ((with_reducible refine gate_dst (N := 5) rfl ?_); refine box_event ?hg (N := 5) ?hd (cs := #[.int .i64 0, .slice none 0 0, .slice none 0 0]) (t := 29) ?hr ?_; (case hd => rfl); (case hg => rfl); (case hr => first | (go_simp; done) | (go_simp; rfl)); intro gb549 hg w28 hbox hb; have n0_ := Aside0.mk (Kd.R_below (rz HO535.out) hb); have n1_ := Aside0.mk (Kd.R_below (rz HO538.out) hb); have n2_ := Aside0.mk (Kd.R_below (rz HO541.out) hb); have n3_ := Aside0.mk (Kd.R_below (rz HO545.out) hb); have n4_ := Aside0.mk (Kd.R_below (rz HO548.out) hb); have n5_ := Aside0.mk (blk_below (g := gb530) (o := .cells #[.int .i64 a0_0, .slice A0_1 l0_1.length c0_1, .slice A0_2 l0_2.length c0_2] 25 (0, 0)) kz hb); have n6_ := Aside0.mk (below_step bz hb); have n7_ := Aside0.mk (hbox); have n8_ := Aside0.mk ((by rw [hg]; exact (below_size bz) : w.heap.size ≤ gb549)); have n9_ := Aside0.mk ((by rw [hg]; exact (below_size bz) : w.heap.size ≤ gb549)); have n10_ := Aside0.mk ((by rw [hg]; exact Nat.ne_of_lt (blk_lt (g := gb530) (o := .cells #[.int .i64 a0_0, .slice A0_1 l0_1.length c0_1, .slice A0_2 l0_2.length c0_2] 25 (0, 0)) kz) : gb530 ≠ gb549)); have n11_ := Aside0.mk ((by rw [hg]; exact Nat.ne_of_gt (blk_lt (g := gb530) (o := .cells #[.int .i64 a0_0, .slice A0_1 l0_1.length c0_1, .slice A0_2 l0_2.length c0_2] 25 (0, 0)) kz) : gb549 ≠ gb530)); clear HO535; clear HO538; clear HO541; clear HO545; clear HO548; clear BK530; clear HB; have HO535 := n0_; have HO538 := n1_; have HO541 := n2_; have HO545 := n3_; have HO548 := n4_; have BK530 := n5_; have HB := n6_; have BK549 := n7_; have GW549 := n8_; have GE549 := n9_; have NB530_549 := n10_; have NB549_530 := n11_; clear n0_ n1_ n2_ n3_ n4_ n5_ n6_ n7_ n8_ n9_ n10_ n11_; clear hb hbox hg; have hnb29 := NB549_530.out; have hnc29 := NB530_549.out; have hcz30_0 : w28.cell? ⟨gb549, 0, none⟩ = some (.int .i64 0) := (blk_cell BK549.out 0).trans rfl; have hcz30_1 : w28.cell? ⟨gb549, 1, none⟩ = some (.slice none 0 0) := (blk_cell BK549.out 1).trans rfl; have hcz30_2 : w28.cell? ⟨gb549, 2, none⟩ = some (.slice none 0 0) := (blk_cell BK549.out 2).trans rfl; have hfz30_0 := blk_frozen BK549.out 0; have hfz30_1 := blk_frozen BK549.out 1; have hfz30_2 := blk_frozen BK549.out 2; obtain ⟨Ao31, co31, eo31⟩ := Kd.R_slice HO545.out; subst eo31; obtain ⟨Ao32, co32, eo32⟩ := Kd.R_slice HO548.out; subst eo32) | ((with_reducible refine gate_callee (f := 24) rfl ?_); refine goesL_ (some 22) rfl rfl Try.func24 (by kernel_rfl) rfl #[.agg #[.int .i64 t542, .slice Ao31 t543.length co31, .slice Ao32 t546.length co32]] rfl lz ?_; (with_reducible refine (impl_Intervals.calls k t542 _ _ t543 _ _ t546 t550 _ ?side1 ?side2 ?side3 ?side4 A10.out).mono ?_); (case side1 => refine (Kd.R_reads' (e := 2) (base := w.heap.size) (ok := fun k_ => (True ∧ some k_ ≠ (.slice Ao23 t533.length co23 : Value).ownBlock)) (n := t543.length) (c := co31) ?_).2.2; exact (by (with_reducible repeat (first | apply Kd.R_alloc | apply Kd.R_drewN | apply Kd.R_drew)); exact (Kd.R_mono (Kd.R_far (p := ⟨gb549, 2, none⟩) (Kd.R_far (p := ⟨gb549, 1, none⟩) (Kd.R_far (p := ⟨gb549, 0, none⟩) (Kd.R_types HO545.out BK549.out (by decide)) (fun _ hk => hk.2) (.int .i64 t542)) (fun _ hk => hk.2) (.slice Ao31 t543.length co31)) (fun _ hk => hk.2) (.slice Ao32 t546.length co32)) (fun _ h_ => h_.1)))); (case side2 => exact (Kd.R_reads' HO545.out).2.1); (case side3 => refine (Kd.R_reads' (e := 85) (base := w.heap.size) (ok := fun k_ => ((some k_ ≠ (.slice Ao31 t543.length co31 : Value).ownBlock ∧ some k_ ≠ (.slice Ao23 t533.length co23 : Value).ownBlock) ∧ some k_ ≠ (.slice Ao24 t536.length co24 : Value).ownBlock)) (n := t546.length) (c := co32) ?_).2.2; exact (by (with_reducible repeat (first | apply Kd.R_alloc | apply Kd.R_drewN | apply Kd.R_drew)); exact (Kd.R_mono (Kd.R_far (p := ⟨gb549, 2, none⟩) (Kd.R_far (p := ⟨gb549, 1, none⟩) (Kd.R_far (p := ⟨gb549, 0, none⟩) (Kd.R_types HO548.out BK549.out (by decide)) (fun _ hk => hk.2) (.int .i64 t542)) (fun _ hk => hk.2) (.slice Ao31 t543.length co31)) (fun _ hk => hk.2) (.slice Ao32 t546.length co32)) (fun _ h_ => h_.1)))); (case side4 => exact (Kd.R_reads' HO548.out).2.1); rintro e w33 ⟨v551, rfl, ho0, hb⟩; refine ⟨_, rfl, ?_⟩; have n0_ := Aside0.mk (Kd.R_below (by (with_reducible repeat (first | apply Kd.R_alloc | apply Kd.R_drewN | apply Kd.R_drew)); exact (Kd.R_mono (Kd.R_far (p := ⟨gb549, 2, none⟩) (Kd.R_far (p := ⟨gb549, 1, none⟩) (Kd.R_far (p := ⟨gb549, 0, none⟩) (Kd.R_types HO535.out BK549.out (by decide)) (fun _ hk => hk.2) (.int .i64 t542)) (fun _ hk => hk.2) (.slice Ao31 t543.length co31)) (fun _ hk => hk.2) (.slice Ao32 t546.length co32)) (fun _ h_ => h_.1))) hb); have n1_ := Aside0.mk (Kd.R_below (by (with_reducible repeat (first | apply Kd.R_alloc | apply Kd.R_drewN | apply Kd.R_drew)); exact (Kd.R_mono (Kd.R_far (p := ⟨gb549, 2, none⟩) (Kd.R_far (p := ⟨gb549, 1, none⟩) (Kd.R_far (p := ⟨gb549, 0, none⟩) (Kd.R_types HO538.out BK549.out (by decide)) (fun _ hk => hk.2) (.int .i64 t542)) (fun _ hk => hk.2) (.slice Ao31 t543.length co31)) (fun _ hk => hk.2) (.slice Ao32 t546.length co32)) (fun _ h_ => h_.1))) hb); have n2_ := Aside0.mk (Kd.R_elder' (by (with_reducible repeat (first | apply Kd.R_alloc | apply Kd.R_drewN | apply Kd.R_drew)); exact (Kd.R_mono (Kd.R_far (p := ⟨gb549, 2, none⟩) (Kd.R_far (p := ⟨gb549, 1, none⟩) (Kd.R_far (p := ⟨gb549, 0, none⟩) (Kd.R_types HO541.out BK549.out (by decide)) (fun _ hk => hk.2) (.int .i64 t542)) (fun _ hk => hk.2) (.slice Ao31 t543.length co31)) (fun _ hk => hk.2) (.slice Ao32 t546.length co32)) (fun _ h_ => h_.1))) (Kd.R_base ho0) hb); have n3_ := Aside0.mk (Kd.R_below (by (with_reducible repeat (first | apply Kd.R_alloc | apply Kd.R_drewN | apply Kd.R_drew)); exact (Kd.R_mono (Kd.R_far (p := ⟨gb549, 2, none⟩) (Kd.R_far (p := ⟨gb549, 1, none⟩) (Kd.R_far (p := ⟨gb549, 0, none⟩) (Kd.R_types HO545.out BK549.out (by decide)) (fun _ hk => hk.2) (.int .i64 t542)) (fun _ hk => hk.2) (.slice Ao31 t543.length co31)) (fun _ hk => hk.2) (.slice Ao32 t546.length co32)) (fun _ h_ => h_.1))) hb); have n4_ := Aside0.mk (Kd.R_below (by (with_reducible repeat (first | apply Kd.R_alloc | apply Kd.R_drewN | apply Kd.R_drew)); exact (Kd.R_mono (Kd.R_far (p := ⟨gb549, 2, none⟩) (Kd.R_far (p := ⟨gb549, 1, none⟩) (Kd.R_far (p := ⟨gb549, 0, none⟩) (Kd.R_types HO548.out BK549.out (by decide)) (fun _ hk => hk.2) (.int .i64 t542)) (fun _ hk => hk.2) (.slice Ao31 t543.length co31)) (fun _ hk => hk.2) (.slice Ao32 t546.length co32)) (fun _ h_ => h_.1))) hb); have n5_ := Aside0.mk (Kd.R_lower (Kd.R_new' ho0 (Kd.R_lt (by (with_reducible repeat (first | apply Kd.R_alloc | apply Kd.R_drewN | apply Kd.R_drew)); exact (Kd.R_mono (Kd.R_far (p := ⟨gb549, 2, none⟩) (Kd.R_far (p := ⟨gb549, 1, none⟩) (Kd.R_far (p := ⟨gb549, 0, none⟩) (Kd.R_types HO541.out BK549.out (by decide)) (fun _ hk => hk.2) (.int .i64 t542)) (fun _ hk => hk.2) (.slice Ao31 t543.length co31)) (fun _ hk => hk.2) (.slice Ao32 t546.length co32)) (fun _ h_ => h_.1))))) (below_size bz)); have n6_ := Aside0.mk (blk_below (g := gb530) (o := .cells #[.int .i64 a0_0, .slice A0_1 l0_1.length c0_1, .slice A0_2 l0_2.length c0_2] 25 (0, 0)) (by (with_reducible repeat (first | refine blk_drewN ?_ _ | refine blk_drew ?_ | refine blk_alloc ?_ _)); refine blk_far ?_ NB530_549.out _; (with_reducible repeat (first | refine blk_drewN ?_ _ | refine blk_drew ?_ | refine blk_alloc ?_ _)); refine blk_far ?_ NB530_549.out _; (with_reducible repeat (first | refine blk_drewN ?_ _ | refine blk_drew ?_ | refine blk_alloc ?_ _)); refine blk_far ?_ NB530_549.out _; (with_reducible repeat (first | refine blk_drewN ?_ _ | refine blk_drew ?_ | refine blk_alloc ?_ _)); exact BK530.out) hb); have n7_ := Aside0.mk (blk_below (g := gb549) (o := .cells #[.int .i64 t542, .slice Ao31 t543.length co31, .slice Ao32 t546.length co32] 29 (0, 0)) (by (with_reducible repeat (first | refine blk_drewN ?_ _ | refine blk_drew ?_ | refine blk_alloc ?_ _)); refine blk_put (cs := #[.int .i64 t542, .slice Ao31 t543.length co31, .slice none 0 0]) ?_ 2 _ rfl; (with_reducible repeat (first | refine blk_drewN ?_ _ | refine blk_drew ?_ | refine blk_alloc ?_ _)); refine blk_put (cs := #[.int .i64 t542, .slice none 0 0, .slice none 0 0]) ?_ 1 _ rfl; (with_reducible repeat (first | refine blk_drewN ?_ _ | refine blk_drew ?_ | refine blk_alloc ?_ _)); refine blk_put (cs := #[.int .i64 0, .slice none 0 0, .slice none 0 0]) ?_ 0 _ rfl; (with_reducible repeat (first | refine blk_drewN ?_ _ | refine blk_drew ?_ | refine blk_alloc ?_ _)); exact BK549.out) hb); have n8_ := Aside0.mk (below_step bz hb); clear HO535; clear HO538; clear HO541; clear HO545; clear HO548; clear BK530; clear BK549; clear HB; have HO535 := n0_; have HO538 := n1_; have HO541 := n2_; have HO545 := n3_; have HO548 := n4_; have HO552 := n5_; have BK530 := n6_; have BK549 := n7_; have HB := n8_; clear n0_ n1_ n2_ n3_ n4_ n5_ n6_ n7_ n8_; (try clear hb); (try clear hb2); (try clear hk); (try clear hi); (try clear ho0); obtain ⟨Ao34, co34, eo34⟩ := Kd.R_slice HO552.out; subst eo34; obtain ⟨Ao35, co35, eo35⟩ := Kd.R_slice HO541.out; subst eo35) | ((with_reducible refine gate_callee (f := 25) rfl ?_); refine goesL_ (some 25) rfl rfl Try.func25 (by kernel_rfl) rfl #[.slice Ao34 t550.length co34, .slice Ao35 t539.length co35] rfl lz ?_; (with_reducible refine (laws_eqIntervalS.calls k _ _ t550 _ _ t539 true _ ?side1 ?side2 ?side3 ?side4 A11.out).mono ?_); (case side1 => repeat (first | exact (Kd.R_reads' HO552.out).2.2 | (with_reducible refine Kd.C_alloc ?_ _) | (with_reducible refine Kd.C_drewN ?_ _) | (with_reducible refine Kd.C_drew ?_))); (case side2 => exact (Kd.R_reads' HO552.out).2.1); (case side3 => repeat (first | exact (Kd.R_reads' HO541.out).2.2 | (with_reducible refine Kd.C_alloc ?_ _) | (with_reducible refine Kd.C_drewN ?_ _) | (with_reducible refine Kd.C_drew ?_))); (case side4 => exact (Kd.R_reads' HO541.out).2.1); rintro e w36 ⟨rfl, hb⟩; refine ⟨_, rfl, ?_⟩; have n0_ := Aside0.mk (Kd.R_below (rz HO535.out) hb); have n1_ := Aside0.mk (Kd.R_below (rz HO538.out) hb); have n2_ := Aside0.mk (Kd.R_below (rz HO541.out) hb); have n3_ := Aside0.mk (Kd.R_below (rz HO545.out) hb); have n4_ := Aside0.mk (Kd.R_below (rz HO548.out) hb); have n5_ := Aside0.mk (Kd.R_below (rz HO552.out) hb); have n6_ := Aside0.mk (blk_below (g := gb530) (o := .cells #[.int .i64 a0_0, .slice A0_1 l0_1.length c0_1, .slice A0_2 l0_2.length c0_2] 25 (0, 0)) kz hb); have n7_ := Aside0.mk (blk_below (g := gb549) (o := .cells #[.int .i64 t542, .slice Ao31 t543.length co31, .slice Ao32 t546.length co32] 29 (0, 0)) kz hb); have n8_ := Aside0.mk (below_step bz hb); clear HO535; clear HO538; clear HO541; clear HO545; clear HO548; clear HO552; clear BK530; clear BK549; clear HB; have HO535 := n0_; have HO538 := n1_; have HO541 := n2_; have HO545 := n3_; have HO548 := n4_; have HO552 := n5_; have BK530 := n6_; have BK549 := n7_; have HB := n8_; clear n0_ n1_ n2_ n3_ n4_ n5_ n6_ n7_ n8_; (try clear hb); (try clear hb2); (try clear hk); (try clear hi)))
       have n0_ := Aside0.mk (Kd.R_drew HO535.out)
       have n1_ := Aside0.mk (Kd.R_drew HO538.out)
       have n2_ := Aside0.mk (Kd.R_drew HO541.out)
       have n3_ := Aside0.mk (Kd.R_drew HO545.out)
       have n4_ := Aside0.mk (Kd.R_drew HO548.out)
       have n5_ := Aside0.mk (Kd.R_drew HO552.out)
       have n6_ := Aside0.mk (blk_drew BK530.out)
       have n7_ := Aside0.mk (blk_drew BK549.out)
       have n8_ := Aside0.mk (below_drew1 HB.out)
       clear HO535
       clear HO538
       clear HO541
       clear HO545
       clear HO548
       clear HO552
       clear BK530
       clear BK549
       clear HB
       have HO535 := n0_
       have HO538 := n1_
       have HO541 := n2_
       have HO545 := n3_
       have HO548 := n4_
       have HO552 := n5_
       have BK530 := n6_
       have BK549 := n7_
       have HB := n8_
       clear n0_ n1_ n2_ n3_ n4_ n5_ n6_ n7_ n8_
       refine start_ (n := 5) (S := fun w' => w'.cell? ⟨gb549, 0, none⟩ = some (.int .i64 t542) ∧ w'.cell? ⟨gb549, 1, none⟩ = some (.slice Ao31 t543.length co31) ∧ w'.cell? ⟨gb549, 2, none⟩ = some (.slice Ao32 t546.length co32) ∧ w'.cell? ⟨gb530, 0, none⟩ = some (.int .i64 a0_0) ∧ w'.cell? ⟨gb530, 1, none⟩ = some (.slice A0_1 l0_1.length c0_1) ∧ w'.cell? ⟨gb530, 2, none⟩ = some (.slice A0_2 l0_2.length c0_2)) (ds := []) #[false, false, false, false, false] (by kernel_rfl) rfl rfl ⟨(blk_cell BK549.out 0).trans rfl, (blk_cell BK549.out 1).trans rfl, (blk_cell BK549.out 2).trans rfl, (blk_cell BK530.out 0).trans rfl, (blk_cell BK530.out 1).trans rfl, (blk_cell BK530.out 2).trans rfl⟩ (fun hHeld => ?_)
       generalize w36.drew = w37 at HO535 HO538 HO541 HO545 HO548 HO552 BK530 BK549 HB hHeld ⊢
       refine take_ (i := 0) (N := some 27) (v := ?_) (a' := ?_) #[true, false, false, false, false] rfl rfl (by kernel_rfl) (fun _ _ _ h => h) (Or.inl ⟨by rfl, ?_⟩) hHeld ?_ ?_
       rotate_left
       · rintro w' ⟨s0, s1, s2, s3, s4, s5⟩
         go_simp
         with_reducible rfl
       rotate_left
       · simp only [Act.put, sx1, sx2, sx3, i64_w, i32_w]
         rfl
       refine take_ (i := 1) (N := some 28) (v := ?_) (a' := ?_) #[true, true, false, false, false] rfl rfl (by kernel_rfl) (fun _ _ _ h => h) (Or.inl ⟨by rfl, ?_⟩) hHeld ?_ ?_
       rotate_left
       · rintro w' ⟨s0, s1, s2, s3, s4, s5⟩
         go_simp
         with_reducible rfl
       rotate_left
       · simp only [Act.put, sx1, sx2, sx3, i64_w, i32_w]
         rfl
       refine one_ (i := 2) (N := some 29) #[true, true, true, false, false] rfl rfl (by kernel_rfl) (by decide) (fun K hK => ?_)
       refine goes_ Try.func13 (by kernel_rfl) rfl #[.agg #[.int .i64 a0_0, .slice A0_1 l0_1.length c0_1, .slice A0_2 l0_2.length c0_2]] (by rfl) rfl rfl lz ?_
       with_reducible refine (laws_toVFunc.calls k a0_0 _ _ l0_1 _ _ l0_2 t554 t555 t558 _ ?side1 ?side2 ?side3 ?side4 A13.out).mono ?_
       (case side1 => exact cz HR0_1.out)
       (case side2 => exact HC0_1.out)
       (case side3 => exact cz HR0_2.out)
       (case side4 => exact HC0_2.out)
       rintro e w38 ⟨v556, v559, rfl, ho0, ho1, hb⟩
       refine ⟨_, rfl, ?_⟩
       have n0_ := Aside0.mk (Kd.R_elder' (rz HO535.out) (Kd.R_base ho0) hb)
       have n1_ := Aside0.mk (Kd.R_mono (Kd.R_told (Kd.R_told (Kd.R_old (rz HO538.out) hb) (Kd.R_base ho0)) (Kd.R_base ho1)) (fun _ h_ => h_.1))
       have n2_ := Aside0.mk (Kd.R_below (rz HO541.out) hb)
       have n3_ := Aside0.mk (Kd.R_elder' (rz HO545.out) (Kd.R_base ho0) hb)
       have n4_ := Aside0.mk (Kd.R_mono (Kd.R_told (Kd.R_told (Kd.R_old (rz HO548.out) hb) (Kd.R_base ho0)) (Kd.R_base ho1)) (fun _ h_ => h_.1))
       have n5_ := Aside0.mk (Kd.R_below (rz HO552.out) hb)
       have n6_ := Aside0.mk (Kd.R_lower (Kd.R_new' (Kd.R_new' ho0 (Kd.R_lt (rz HO535.out))) (Kd.R_lt (rz HO545.out))) (below_size bz))
       have n7_ := Aside0.mk (Kd.R_lower (Kd.R_new' (Kd.R_new' (Kd.R_new' (Kd.R_new' ho1 (Kd.R_lt (rz HO535.out))) (Kd.R_lt (rz HO538.out))) (Kd.R_lt (rz HO545.out))) (Kd.R_lt (rz HO548.out))) (below_size bz))
       have n8_ := Aside0.mk (blk_below (g := gb530) (o := .cells #[.int .i64 a0_0, .slice A0_1 l0_1.length c0_1, .slice A0_2 l0_2.length c0_2] 25 (0, 0)) kz hb)
       have n9_ := Aside0.mk (blk_below (g := gb549) (o := .cells #[.int .i64 t542, .slice Ao31 t543.length co31, .slice Ao32 t546.length co32] 29 (0, 0)) kz hb)
       have n10_ := Aside0.mk (below_step bz hb)
       clear HO535
       clear HO538
       clear HO541
       clear HO545
       clear HO548
       clear HO552
       clear BK530
       clear BK549
       clear HB
       have HO535 := n0_
       have HO538 := n1_
       have HO541 := n2_
       have HO545 := n3_
       have HO548 := n4_
       have HO552 := n5_
       have HO557 := n6_
       have HO560 := n7_
       have BK530 := n8_
       have BK549 := n9_
       have HB := n10_
       clear n0_ n1_ n2_ n3_ n4_ n5_ n6_ n7_ n8_ n9_ n10_
       (try clear hb)
       (try clear hb2)
       (try clear hk)
       (try clear hi)
       (try clear ho0)
       (try clear ho1)
       obtain ⟨Ao39, co39, eo39⟩ := Kd.R_slice HO557.out
       (first | subst eo39 | (injection eo39 with f1_ f2_ f3_; have f4_ := f1_.symm; have f5_ := f3_.symm; clear f1_ f2_ f3_; subst f4_; subst f5_))
       obtain ⟨Ao40, co40, eo40⟩ := Kd.R_slice HO560.out
       (first | subst eo40 | (injection eo40 with f1_ f2_ f3_; have f4_ := f1_.symm; have f5_ := f3_.symm; clear f1_ f2_ f3_; subst f4_; subst f5_))
       refine hK.out _ _ ⟨(blk_cell BK549.out 0).trans rfl, (blk_cell BK549.out 1).trans rfl, (blk_cell BK549.out 2).trans rfl, (blk_cell BK530.out 0).trans rfl, (blk_cell BK530.out 1).trans rfl, (blk_cell BK530.out 2).trans rfl⟩ (fun hHeld => ?_)
       clear hK K
       refine norm_ (a' := ?_) ?_ ?_
       rotate_left
       · show Act.put _ (some 29) _ = _
         simp only [Act.put, sx1, sx2, sx3, i64_w, i32_w]
         rfl
       refine one_ (i := 3) (N := some 30) #[true, true, true, true, false] rfl rfl (by kernel_rfl) (by decide) (fun K hK => ?_)
       refine goes_ Try.func15 (by kernel_rfl) rfl #[.agg #[.int .i64 t542, .slice Ao31 t543.length co31, .slice Ao32 t546.length co32], .agg #[.int .i64 t554, .slice Ao39 t555.length co39, .slice Ao40 t558.length co40]] (by rfl) rfl rfl lz ?_
       with_reducible refine (laws_eqVFunc.calls k t542 _ _ t543 _ _ t546 t554 _ _ t555 _ _ t558 true _ ?side1 ?side2 ?side3 ?side4 ?side5 ?side6 ?side7 ?side8 A14.out).mono ?_
       (case side1 => repeat (first | exact (Kd.R_reads' HO545.out).2.2 | (with_reducible refine Kd.C_alloc ?_ _) | (with_reducible refine Kd.C_drewN ?_ _) | (with_reducible refine Kd.C_drew ?_)))
       (case side2 => exact (Kd.R_reads' HO545.out).2.1)
       (case side3 => repeat (first | exact (Kd.R_reads' HO548.out).2.2 | (with_reducible refine Kd.C_alloc ?_ _) | (with_reducible refine Kd.C_drewN ?_ _) | (with_reducible refine Kd.C_drew ?_)))
       (case side4 => exact (Kd.R_reads' HO548.out).2.1)
       (case side5 => repeat (first | exact (Kd.R_reads' HO557.out).2.2 | (with_reducible refine Kd.C_alloc ?_ _) | (with_reducible refine Kd.C_drewN ?_ _) | (with_reducible refine Kd.C_drew ?_)))
       (case side6 => exact (Kd.R_reads' HO557.out).2.1)
       (case side7 => repeat (first | exact (Kd.R_reads' HO560.out).2.2 | (with_reducible refine Kd.C_alloc ?_ _) | (with_reducible refine Kd.C_drewN ?_ _) | (with_reducible refine Kd.C_drew ?_)))
       (case side8 => exact (Kd.R_reads' HO560.out).2.1)
       rintro e w41 ⟨rfl, hb⟩
       refine ⟨_, rfl, ?_⟩
       have n0_ := Aside0.mk (Kd.R_below (rz HO535.out) hb)
       have n1_ := Aside0.mk (Kd.R_below (rz HO538.out) hb)
       have n2_ := Aside0.mk (Kd.R_below (rz HO541.out) hb)
       have n3_ := Aside0.mk (Kd.R_below (rz HO545.out) hb)
       have n4_ := Aside0.mk (Kd.R_below (rz HO548.out) hb)
       have n5_ := Aside0.mk (Kd.R_below (rz HO552.out) hb)
       have n6_ := Aside0.mk (Kd.R_below (rz HO557.out) hb)
       have n7_ := Aside0.mk (Kd.R_below (rz HO560.out) hb)
       have n8_ := Aside0.mk (blk_below (g := gb530) (o := .cells #[.int .i64 a0_0, .slice A0_1 l0_1.length c0_1, .slice A0_2 l0_2.length c0_2] 25 (0, 0)) kz hb)
       have n9_ := Aside0.mk (blk_below (g := gb549) (o := .cells #[.int .i64 t542, .slice Ao31 t543.length co31, .slice Ao32 t546.length co32] 29 (0, 0)) kz hb)
       have n10_ := Aside0.mk (below_step bz hb)
       clear HO535
       clear HO538
       clear HO541
       clear HO545
       clear HO548
       clear HO552
       clear HO557
       clear HO560
       clear BK530
       clear BK549
       clear HB
       have HO535 := n0_
       have HO538 := n1_
       have HO541 := n2_
       have HO545 := n3_
       have HO548 := n4_
       have HO552 := n5_
       have HO557 := n6_
       have HO560 := n7_
       have BK530 := n8_
       have BK549 := n9_
       have HB := n10_
       clear n0_ n1_ n2_ n3_ n4_ n5_ n6_ n7_ n8_ n9_ n10_
       (try clear hb)
       (try clear hb2)
       (try clear hk)
       (try clear hi)
       refine hK.out _ _ ⟨(blk_cell BK549.out 0).trans rfl, (blk_cell BK549.out 1).trans rfl, (blk_cell BK549.out 2).trans rfl, (blk_cell BK530.out 0).trans rfl, (blk_cell BK530.out 1).trans rfl, (blk_cell BK530.out 2).trans rfl⟩ (fun hHeld => ?_)
       clear hK K
       refine norm_ (a' := ?_) ?_ ?_
       rotate_left
       · show Act.put _ (some 30) _ = _
         simp only [Act.put, sx1, sx2, sx3, i64_w, i32_w]
         rfl
       refine pure_ (i := 4) (N := some 31) (v := ?_) (a' := ?_) #[true, true, true, true, true] rfl rfl (by kernel_rfl) (fun _ _ _ h => h) (Or.inl ⟨by rfl, ?_⟩) ?_ ?_
       rotate_left
       · intro w'
         go_simp
         with_reducible rfl
       rotate_left
       · simp only [Act.put, sx1, sx2, sx3, i64_w, i32_w]
         rfl
       refine done_ (by kernel_rfl) ?_
       have hcz42_0 : w41.cell? ⟨gb549, 0, none⟩ = some (.int .i64 t542) := (blk_cell BK549.out 0).trans rfl
       have hcz42_1 : w41.cell? ⟨gb549, 1, none⟩ = some (.slice Ao31 t543.length co31) := (blk_cell BK549.out 1).trans rfl
       have hcz42_2 : w41.cell? ⟨gb549, 2, none⟩ = some (.slice Ao32 t546.length co32) := (blk_cell BK549.out 2).trans rfl
       go_upto_region 14 with (first | ((with_reducible refine gate_callee (f := 16) rfl ?_); refine goesL_ (some 34) rfl rfl Try.func16 (by kernel_rfl) rfl #[.agg #[.int .i64 t542, .slice Ao31 t543.length co31, .slice Ao32 t546.length co32], .int .i64 1] rfl lz ?_; (with_reducible refine (laws_markVFunc.calls t542 (fun k_ => some k_ = (.slice Ao31 t543.length co31 : Value).ownBlock) (.slice Ao31 t543.length co31) t543 (fun k_ => ((((((((some k_ ≠ (.slice Ao31 t543.length co31 : Value).ownBlock ∧ some k_ ≠ (.slice Ao23 t533.length co23 : Value).ownBlock) ∧ some k_ ≠ (.slice Ao24 t536.length co24 : Value).ownBlock) ∧ some k_ ≠ (.slice Ao39 t555.length co39 : Value).ownBlock) ∧ some k_ ≠ (.slice Ao40 t558.length co40 : Value).ownBlock) ∧ some k_ ≠ (.slice Ao35 t539.length co35 : Value).ownBlock) ∧ some k_ ≠ (.slice Ao34 t550.length co34 : Value).ownBlock) ∧ k_ ≠ gb530) ∧ k_ ≠ gb549) ∧ w.heap.size ≤ k_) (.slice Ao32 t546.length co32) t546 1 t562 w _ ?side1 ?side2 ?side3 A16.out).mono ?_); (case side1 => repeat (first | (with_reducible first | exact HB.out | apply below_alloc | apply pw_below_drewN | apply below_drew1 | refine below_set ?_ GE530.out | refine below_set ?_ GE549.out) | exact HB.out)); (case side2 => exact Kd.R_tight rfl HO545.out); (case side3 => exact Kd.R_mono (Kd.R_bound (Kd.R_types (Kd.R_types (Kd.R_apart' (Kd.R_apart' (HO548.out) (Kd.R_typed HO541.out) (by decide)) (Kd.R_typed HO552.out) (by decide)) BK530.out (by decide)) BK549.out (by decide))) (fun _ h_ => ⟨h_.1, h_.2.1⟩)); rintro e w43 ⟨rfl, hb, hkp⟩; refine ⟨_, rfl, ?_⟩; have n0_ := Aside0.mk (blk_kept kz hkp (fun hs_ => Or.elim hs_ (fun e_ => (fun e_ => (Kd.R_ne HO545.out BK530.out (by decide)) e_) e_) (fun e_ => (fun p_ => (p_.1.1.2) rfl) e_))); have n1_ := Aside0.mk (Kd.R_mono (ok' := fun k_ => some k_ ≠ (.slice Ao39 t555.length co39 : Value).ownBlock) (Kd.R_keptB ((Kd.R_mono (Kd.R_tight2 rfl HO535.out) (fun k_ hk => (⟨hk.2, fun p_ => (p_.1.1.1.1.1.1.1.1.2) hk.1⟩ : _ ∧ ¬ ((fun k_ => ((((((((some k_ ≠ (.slice Ao31 t543.length co31 : Value).ownBlock ∧ some k_ ≠ (.slice Ao23 t533.length co23 : Value).ownBlock) ∧ some k_ ≠ (.slice Ao24 t536.length co24 : Value).ownBlock) ∧ some k_ ≠ (.slice Ao39 t555.length co39 : Value).ownBlock) ∧ some k_ ≠ (.slice Ao40 t558.length co40 : Value).ownBlock) ∧ some k_ ≠ (.slice Ao35 t539.length co35 : Value).ownBlock) ∧ some k_ ≠ (.slice Ao34 t550.length co34 : Value).ownBlock) ∧ k_ ≠ gb530) ∧ k_ ≠ gb549) ∧ w.heap.size ≤ k_)) k_)))) hkp (fun k_ hk_ hs_ => Or.elim hs_ (fun e_ => (hk_.1.1.2) e_) (fun e_ => (hk_.2) e_))) (fun k_ hk_ => hk_.1.1.2)); have n2_ := Aside0.mk (Kd.R_mono (ok' := fun k_ => some k_ ≠ (.slice Ao34 t550.length co34 : Value).ownBlock) (Kd.R_keptB ((Kd.R_mono (Kd.R_tight2 rfl (Kd.R_apart' HO541.out (Kd.R_typed HO545.out) (by decide))) (fun k_ hk => (⟨hk.2, fun p_ => (p_.1.1.1.1.2) hk.1⟩ : _ ∧ ¬ ((fun k_ => ((((((((some k_ ≠ (.slice Ao31 t543.length co31 : Value).ownBlock ∧ some k_ ≠ (.slice Ao23 t533.length co23 : Value).ownBlock) ∧ some k_ ≠ (.slice Ao24 t536.length co24 : Value).ownBlock) ∧ some k_ ≠ (.slice Ao39 t555.length co39 : Value).ownBlock) ∧ some k_ ≠ (.slice Ao40 t558.length co40 : Value).ownBlock) ∧ some k_ ≠ (.slice Ao35 t539.length co35 : Value).ownBlock) ∧ some k_ ≠ (.slice Ao34 t550.length co34 : Value).ownBlock) ∧ k_ ≠ gb530) ∧ k_ ≠ gb549) ∧ w.heap.size ≤ k_)) k_)))) hkp (fun k_ hk_ hs_ => Or.elim hs_ (fun e_ => (hk_.1.2) e_) (fun e_ => (hk_.2) e_))) (fun k_ hk_ => hk_.1.1.1.2)); have n3_ := Aside0.mk (blk_kept kz hkp (fun hs_ => Or.elim hs_ (fun e_ => (fun e_ => (Kd.R_ne HO545.out BK549.out (by decide)) e_) e_) (fun e_ => (fun p_ => (p_.1.2) rfl) e_))); have n4_ := Aside0.mk (Kd.R_mono (ok' := fun k_ => some k_ ≠ (.slice Ao35 t539.length co35 : Value).ownBlock) (Kd.R_keptB ((Kd.R_mono (Kd.R_tight2 rfl (Kd.R_apart' HO552.out (Kd.R_typed HO545.out) (by decide))) (fun k_ hk => (⟨hk.2, fun p_ => (p_.1.1.1.2) hk.1⟩ : _ ∧ ¬ ((fun k_ => ((((((((some k_ ≠ (.slice Ao31 t543.length co31 : Value).ownBlock ∧ some k_ ≠ (.slice Ao23 t533.length co23 : Value).ownBlock) ∧ some k_ ≠ (.slice Ao24 t536.length co24 : Value).ownBlock) ∧ some k_ ≠ (.slice Ao39 t555.length co39 : Value).ownBlock) ∧ some k_ ≠ (.slice Ao40 t558.length co40 : Value).ownBlock) ∧ some k_ ≠ (.slice Ao35 t539.length co35 : Value).ownBlock) ∧ some k_ ≠ (.slice Ao34 t550.length co34 : Value).ownBlock) ∧ k_ ≠ gb530) ∧ k_ ≠ gb549) ∧ w.heap.size ≤ k_)) k_)))) hkp (fun k_ hk_ hs_ => Or.elim hs_ (fun e_ => (hk_.1.2) e_) (fun e_ => (hk_.2) e_))) (fun k_ hk_ => hk_.1.1.1.2)); have n5_ := Aside0.mk (Kd.R_mono (ok' := fun k_ => some k_ ≠ (.slice Ao23 t533.length co23 : Value).ownBlock) (Kd.R_keptB ((Kd.R_mono (Kd.R_tight2 rfl HO557.out) (fun k_ hk => (⟨hk.2, fun p_ => (p_.1.1.1.1.1.1.2) hk.1⟩ : _ ∧ ¬ ((fun k_ => ((((((((some k_ ≠ (.slice Ao31 t543.length co31 : Value).ownBlock ∧ some k_ ≠ (.slice Ao23 t533.length co23 : Value).ownBlock) ∧ some k_ ≠ (.slice Ao24 t536.length co24 : Value).ownBlock) ∧ some k_ ≠ (.slice Ao39 t555.length co39 : Value).ownBlock) ∧ some k_ ≠ (.slice Ao40 t558.length co40 : Value).ownBlock) ∧ some k_ ≠ (.slice Ao35 t539.length co35 : Value).ownBlock) ∧ some k_ ≠ (.slice Ao34 t550.length co34 : Value).ownBlock) ∧ k_ ≠ gb530) ∧ k_ ≠ gb549) ∧ w.heap.size ≤ k_)) k_)))) hkp (fun k_ hk_ hs_ => Or.elim hs_ (fun e_ => (hk_.1.2) e_) (fun e_ => (hk_.2) e_))) (fun k_ hk_ => hk_.1.1.1.2)); have n6_ := Aside0.mk (hb); clear BK530; clear HO535; clear HO541; clear BK549; clear HO552; clear HO557; clear HB; clear HO545; clear HO548; clear HO538; clear HO560; have BK530 := n0_; have HO535 := n1_; have HO541 := n2_; have BK549 := n3_; have HO552 := n4_; have HO557 := n5_; have HB := n6_; clear n0_ n1_ n2_ n3_ n4_ n5_ n6_; (try clear hb); (try clear hkp)))
       (try simp only [Act.put, sx1, sx2, sx3])
       go_cut [42] (fun v42 wc => ∃ (kq : Nat) (x42_16 : Bool), v42 = .bool x42_16 ∧ Aside0 (laws_FnExactIntervals.j0 kq t539 t550 x42_16 a0_0 l0_1 l0_2 = some r) ∧ Aside0 (kq ≤ k) ∧ Aside0 (Kd.R k113 113 wc w.heap.size (fun k_ => some k_ ≠ ((.slice Ao34 t550.length co34) : Value).ownBlock) (.slice Ao35 t539.length co35) t539) ∧ Aside0 (Kd.R k113 113 wc w.heap.size (fun k_ => some k_ ≠ ((.slice Ao35 t539.length co35) : Value).ownBlock) (.slice Ao34 t550.length co34) t550) ∧ Aside0 (wc.heap[gb530]? = some (.cells #[.int .i64 a0_0, (.slice A0_1 l0_1.length c0_1), (.slice A0_2 l0_2.length c0_2)] 25 (0, 0))) ∧ Aside0 (Below w.heap.size w wc))
       case first =>
        have H := HC17.out
        clear HC17
        by_cases c44 : t562 < 0
        · rw [if_pos c44] at H
          have c44b0 : decide (t562 < 0) = true := decide_eq_true c44
          clear c44
          (first | rw [c44b0] | (simp only [i64_w, i32_w]; rw [c44b0]) | skip)
          have H' := Aside0.mk H
          clear H
          go_wp2
          go_meet
          case rel => exact ⟨_, (true), sz_, H', ⟨by first | omega | exact Nat.le_refl _⟩, ⟨by (with_reducible repeat (first | apply Kd.R_alloc | apply Kd.R_drewN | apply Kd.R_drew)); exact HO541.out⟩, ⟨by (with_reducible repeat (first | apply Kd.R_alloc | apply Kd.R_drewN | apply Kd.R_drew)); exact HO552.out⟩, ⟨ kz⟩, ⟨ bz⟩⟩
        · rw [if_neg c44] at H
          have c44b0 : decide (t562 < 0) = false := decide_eq_false c44
          clear c44
          (first | rw [c44b0] | (simp only [i64_w, i32_w]; rw [c44b0]) | skip)
          replace H := Option.bind_eq_some_iff.mp H
          obtain ⟨t563, A450, H⟩ := H
          replace H : (laws_FnExactIntervals.j0 k t539 t550 (!t563) a0_0 l0_1 l0_2) = some r := H
          have A45 := Aside0.mk A450
          clear A450
          have H' := Aside0.mk H
          clear H
          go_wp2_with (first | (go_at_call 25; (with_reducible refine (laws_eqIntervalS.calls k _ _ t550 _ _ t539 t563 _ ?side1 ?side2 ?side3 ?side4 A45.out).mono ?_); (case side1 => repeat (first | exact (Kd.R_reads' HO552.out).2.2 | (with_reducible refine Kd.C_alloc ?_ _) | (with_reducible refine Kd.C_drewN ?_ _) | (with_reducible refine Kd.C_drew ?_))); (case side2 => exact (Kd.R_reads' HO552.out).2.1); (case side3 => repeat (first | exact (Kd.R_reads' HO541.out).2.2 | (with_reducible refine Kd.C_alloc ?_ _) | (with_reducible refine Kd.C_drewN ?_ _) | (with_reducible refine Kd.C_drew ?_))); (case side4 => exact (Kd.R_reads' HO541.out).2.1); rintro e w46 ⟨rfl, hb⟩; have n0_ := Aside0.mk (Kd.R_below (rz HO535.out) hb); have n1_ := Aside0.mk (Kd.R_below (rz HO541.out) hb); have n2_ := Aside0.mk (Kd.R_below (rz HO552.out) hb); have n3_ := Aside0.mk (Kd.R_below (rz HO557.out) hb); have n4_ := Aside0.mk (blk_below (g := gb530) (o := .cells #[.int .i64 a0_0, .slice A0_1 l0_1.length c0_1, .slice A0_2 l0_2.length c0_2] 25 (0, 0)) kz hb); have n5_ := Aside0.mk (blk_below (g := gb549) (o := .cells #[.int .i64 t542, .slice Ao31 t543.length co31, .slice Ao32 t546.length co32] 29 (0, 0)) kz hb); have n6_ := Aside0.mk (below_step bz hb); clear HO535; clear HO541; clear HO552; clear HO557; clear BK530; clear BK549; clear HB; have HO535 := n0_; have HO541 := n1_; have HO552 := n2_; have HO557 := n3_; have BK530 := n4_; have BK549 := n5_; have HB := n6_; clear n0_ n1_ n2_ n3_ n4_ n5_ n6_; (try clear hb); (try clear hb2); (try clear hk); (try clear hi)))
          go_meet
          case rel => exact ⟨_, (!t563), sz_, H', ⟨by first | omega | exact Nat.le_refl _⟩, ⟨by (with_reducible repeat (first | apply Kd.R_alloc | apply Kd.R_drewN | apply Kd.R_drew)); exact HO541.out⟩, ⟨by (with_reducible repeat (first | apply Kd.R_alloc | apply Kd.R_drewN | apply Kd.R_drew)); exact HO552.out⟩, ⟨ kz⟩, ⟨ bz⟩⟩
       case rest =>
        clear HC17
        obtain ⟨kq, x42_16, rfl, HA, HJ16, HO_4, HO_6, BK530, HB⟩ := hcut
        cases kq with
        | zero => exact absurd HA.out (by simp [laws_FnExactIntervals.j0])
        | succ kj16 =>
         have H := HA.out
         clear HA
         simp only [laws_FnExactIntervals.j0] at H
         by_cases c47 : x42_16 = true
         · subst c47
           have H1 : (some false) = some r := by rw [if_pos rfl] at H; exact H
           clear H
           have H := H1
           clear H1
           exact Bool.noConfusion ((Option.some.inj H).trans hr_.out)
         · replace c47 := Bool.eq_false_iff.mpr c47
           subst c47
           have H1 : ((laws_markIntervalS.f kj16 t550 1).bind fun bt564 => ((laws_heldIntervalS.f kj16 bt564.2 1).bind fun t566 => (if t566 < 0 then (some false) else (if t566 = bt564.1 then ((laws_toVFunc.f kj16 a0_0 l0_1 l0_2).bind fun bt567 => ((impl_Intervals.f kj16 bt567.1 bt567.2.1 bt567.2.2).bind fun t574 => ((laws_eqIntervalS.f kj16 t574 t539).bind fun t577 => (if t577 = true then ((laws_heldIntervalS.f kj16 bt564.2 1).bind fun t578 => (if t578 < 0 then (some false) else (if t578 = bt564.1 then (some true) else (some false)))) else (some false))))) else (some false))))) = some r := by rw [if_neg (show ¬ (false = true) by decide)] at H; exact H
           clear H
           have H := H1
           clear H1
           replace H := Option.bind_eq_some_iff.mp H
           obtain ⟨⟨t564, t565⟩, A480, H⟩ := H
           replace H : ((laws_heldIntervalS.f kj16 t565 1).bind fun t566 => (if t566 < 0 then (some false) else (if t566 = t564 then ((laws_toVFunc.f kj16 a0_0 l0_1 l0_2).bind fun bt567 => ((impl_Intervals.f kj16 bt567.1 bt567.2.1 bt567.2.2).bind fun t574 => ((laws_eqIntervalS.f kj16 t574 t539).bind fun t577 => (if t577 = true then ((laws_heldIntervalS.f kj16 t565 1).bind fun t578 => (if t578 < 0 then (some false) else (if t578 = t564 then (some true) else (some false)))) else (some false))))) else (some false)))) = some r := H
           have A48 := Aside0.mk A480
           clear A480
           replace H := Option.bind_eq_some_iff.mp H
           obtain ⟨t566, A490, H⟩ := H
           replace H : (if t566 < 0 then (some false) else (if t566 = t564 then ((laws_toVFunc.f kj16 a0_0 l0_1 l0_2).bind fun bt567 => ((impl_Intervals.f kj16 bt567.1 bt567.2.1 bt567.2.2).bind fun t574 => ((laws_eqIntervalS.f kj16 t574 t539).bind fun t577 => (if t577 = true then ((laws_heldIntervalS.f kj16 t565 1).bind fun t578 => (if t578 < 0 then (some false) else (if t578 = t564 then (some true) else (some false)))) else (some false))))) else (some false))) = some r := H
           have A49 := Aside0.mk A490
           clear A490
           by_cases c50 : t566 < 0
           · rw [if_pos c50] at H
             have c50b0 : decide (t566 < 0) = true := decide_eq_true c50
             clear c50
             exact Bool.noConfusion ((Option.some.inj H).trans hr_.out)
           · rw [if_neg c50] at H
             have c50b0 : decide (t566 < 0) = false := decide_eq_false c50
             clear c50
             by_cases c52 : t566 = t564
             · rw [if_pos c52] at H
               have c52b0 : (t566 == t564) = true := beq_iff_eq.mpr c52
               have c52b1 : (t566 != t564) = false := bne_eq_false_iff_eq.mpr c52
               clear c52
               replace H := Option.bind_eq_some_iff.mp H
               obtain ⟨⟨t567, t568, t571⟩, A530, H⟩ := H
               replace H : ((impl_Intervals.f kj16 t567 t568 t571).bind fun t574 => ((laws_eqIntervalS.f kj16 t574 t539).bind fun t577 => (if t577 = true then ((laws_heldIntervalS.f kj16 t565 1).bind fun t578 => (if t578 < 0 then (some false) else (if t578 = t564 then (some true) else (some false)))) else (some false)))) = some r := H
               have A53 := Aside0.mk A530
               clear A530
               replace H := Option.bind_eq_some_iff.mp H
               obtain ⟨t574, A540, H⟩ := H
               replace H : ((laws_eqIntervalS.f kj16 t574 t539).bind fun t577 => (if t577 = true then ((laws_heldIntervalS.f kj16 t565 1).bind fun t578 => (if t578 < 0 then (some false) else (if t578 = t564 then (some true) else (some false)))) else (some false))) = some r := H
               have A54 := Aside0.mk A540
               clear A540
               replace H := Option.bind_eq_some_iff.mp H
               obtain ⟨t577, A550, H⟩ := H
               replace H : (if t577 = true then ((laws_heldIntervalS.f kj16 t565 1).bind fun t578 => (if t578 < 0 then (some false) else (if t578 = t564 then (some true) else (some false)))) else (some false)) = some r := H
               have A55 := Aside0.mk A550
               clear A550
               by_cases c56 : t577 = true
               · subst c56
                 have H1 : ((laws_heldIntervalS.f kj16 t565 1).bind fun t578 => (if t578 < 0 then (some false) else (if t578 = t564 then (some true) else (some false)))) = some r := by rw [if_pos rfl] at H; exact H
                 clear H
                 have H := H1
                 clear H1
                 replace H := Option.bind_eq_some_iff.mp H
                 obtain ⟨t578, A570, H⟩ := H
                 replace H : (if t578 < 0 then (some false) else (if t578 = t564 then (some true) else (some false))) = some r := H
                 have A57 := Aside0.mk A570
                 clear A570
                 by_cases c58 : t578 < 0
                 · rw [if_pos c58] at H
                   have c58b0 : decide (t578 < 0) = true := decide_eq_true c58
                   clear c58
                   exact Bool.noConfusion ((Option.some.inj H).trans hr_.out)
                 · rw [if_neg c58] at H
                   have c58b0 : decide (t578 < 0) = false := decide_eq_false c58
                   clear c58
                   by_cases c67 : t578 = t564
                   · rw [if_pos c67] at H
                     have c67b0 : (t578 == t564) = true := beq_iff_eq.mpr c67
                     have c67b1 : (t578 != t564) = false := bne_eq_false_iff_eq.mpr c67
                     clear c67
                     obtain rfl := Option.some.inj H
                     go_wp2_with (first | ((with_reducible refine gate_callee (f := 26) rfl ?_); refine goesL_ (some 45) rfl rfl Try.func26 (by kernel_rfl) rfl #[.slice Ao34 t550.length co34, .int .i64 1] rfl lz ?_; (with_reducible refine (laws_markIntervalS.calls kj16 (fun k_ => some k_ = (.slice Ao34 t550.length co34 : Value).ownBlock) (.slice Ao34 t550.length co34) t550 1 t564 t565 w _ ?side1 ?side2 A48.out).mono ?_); (case side1 => repeat (first | (with_reducible first | exact HB.out | apply below_alloc | apply pw_below_drewN | apply below_drew1 | refine below_set ?_ GE530.out) | exact HB.out)); (case side2 => exact Kd.R_tight rfl HO_6.out); rintro e w68 ⟨rfl, hy0, hb, hkp⟩; refine ⟨_, rfl, ?_⟩; have n0_ := Aside0.mk (Kd.R_mono (ok' := fun k_ => some k_ ≠ (.slice Ao34 t550.length co34 : Value).ownBlock) (Kd.R_keptB (HO_4.out) hkp (fun k_ hk_ hs_ => (hk_) hs_)) (fun k_ hk_ => hk_.1)); have n1_ := Aside0.mk (Kd.R_reok rfl hy0 (fun k_ e_ => HO_6.out.1 k_ e_)); have n2_ := Aside0.mk (blk_kept kz hkp (fun hs_ => (fun e_ => (Kd.R_ne HO_6.out BK530.out (by decide)) e_) hs_)); have n3_ := Aside0.mk (hb); clear HO_4; clear HO_6; clear BK530; clear HB; have HO_4 := n0_; have HO_6 := n1_; have BK530 := n2_; have HB := n3_; clear n0_ n1_ n2_ n3_; (try clear hb); (try clear hkp); (try clear hy0)) | ((with_reducible refine gate_callee (f := 27) rfl ?_); refine goesL_ (some 48) rfl rfl Try.func27 (by kernel_rfl) rfl #[.slice Ao34 t565.length co34, .int .i64 1] rfl (by (try simp only [List.map_toArray, List.map_cons, List.map_nil]); first | done | (rw [show t565.length = t550.length from (Kd.R_reads' HO_6.out).1.symm] <;> rfl) | rfl | (simp only [List.length_drop, List.length_take]; rfl)) ?_; (with_reducible refine (laws_heldIntervalS.calls kj16 _ _ t565 1 t566 _ ?side1 ?side2 A49.out).mono ?_); (case side1 => repeat (first | exact (Kd.R_reads' HO_6.out).2.2 | (with_reducible refine Kd.C_alloc ?_ _) | (with_reducible refine Kd.C_drewN ?_ _) | (with_reducible refine Kd.C_drew ?_))); (case side2 => rw [show t565.length = t550.length from (Kd.R_reads' HO_6.out).1.symm]; exact (Kd.R_reads' HO_6.out).2.1); rintro e w' ⟨rfl, ⟨nd, rfl⟩⟩; refine ⟨_, rfl, ?_⟩; have hcz69_0 : w68.cell? ⟨gb530, 0, none⟩ = some (.int .i64 a0_0) := (blk_cell BK530.out 0).trans rfl; have hcz69_1 : w68.cell? ⟨gb530, 1, none⟩ = some (.slice A0_1 l0_1.length c0_1) := (blk_cell BK530.out 1).trans rfl; have hcz69_2 : w68.cell? ⟨gb530, 2, none⟩ = some (.slice A0_2 l0_2.length c0_2) := (blk_cell BK530.out 2).trans rfl; have hfz69_0 := blk_frozen BK530.out 0; have hfz69_1 := blk_frozen BK530.out 1; have hfz69_2 := blk_frozen BK530.out 2) | ((with_reducible refine gate_callee (f := 13) rfl ?_); refine goesL_ (some 55) rfl rfl Try.func13 (by kernel_rfl) rfl #[.agg #[.int .i64 a0_0, .slice A0_1 l0_1.length c0_1, .slice A0_2 l0_2.length c0_2]] rfl lz ?_; (with_reducible refine (laws_toVFunc.calls kj16 a0_0 _ _ l0_1 _ _ l0_2 t567 t568 t571 _ ?side1 ?side2 ?side3 ?side4 A53.out).mono ?_); (case side1 => exact cz HR0_1.out); (case side2 => exact HC0_1.out); (case side3 => exact cz HR0_2.out); (case side4 => exact HC0_2.out); rintro e w70 ⟨v569, v572, rfl, ho0, ho1, hb⟩; refine ⟨_, rfl, ?_⟩; have n0_ := Aside0.mk (Kd.R_below (rz HO_4.out) hb); have n1_ := Aside0.mk (Kd.R_below (rz HO_6.out) hb); have n2_ := Aside0.mk (Kd.R_lower ho0 (below_size bz)); have n3_ := Aside0.mk (Kd.R_lower ho1 (below_size bz)); have n4_ := Aside0.mk (blk_below (g := gb530) (o := .cells #[.int .i64 a0_0, .slice A0_1 l0_1.length c0_1, .slice A0_2 l0_2.length c0_2] 25 (0, 0)) kz hb); have n5_ := Aside0.mk (below_step bz hb); clear HO_4; clear HO_6; clear BK530; clear HB; have HO_4 := n0_; have HO_6 := n1_; have HO570 := n2_; have HO573 := n3_; have BK530 := n4_; have HB := n5_; clear n0_ n1_ n2_ n3_ n4_ n5_; (try clear hb); (try clear hb2); (try clear hk); (try clear hi); (try clear ho0); (try clear ho1); obtain ⟨Ao71, co71, eo71⟩ := Kd.R_slice HO570.out; subst eo71; obtain ⟨Ao72, co72, eo72⟩ := Kd.R_slice HO573.out; subst eo72) | ((with_reducible refine gate_callee (f := 24) rfl ?_); refine goesL_ (some 56) rfl rfl Try.func24 (by kernel_rfl) rfl #[.agg #[.int .i64 t567, .slice Ao71 t568.length co71, .slice Ao72 t571.length co72]] rfl lz ?_; (with_reducible refine (impl_Intervals.calls kj16 t567 _ _ t568 _ _ t571 t574 _ ?side1 ?side2 ?side3 ?side4 A54.out).mono ?_); (case side1 => repeat (first | exact (Kd.R_reads' HO570.out).2.2 | (with_reducible refine Kd.C_alloc ?_ _) | (with_reducible refine Kd.C_drewN ?_ _) | (with_reducible refine Kd.C_drew ?_))); (case side2 => exact (Kd.R_reads' HO570.out).2.1); (case side3 => repeat (first | exact (Kd.R_reads' HO573.out).2.2 | (with_reducible refine Kd.C_alloc ?_ _) | (with_reducible refine Kd.C_drewN ?_ _) | (with_reducible refine Kd.C_drew ?_))); (case side4 => exact (Kd.R_reads' HO573.out).2.1); rintro e w73 ⟨v575, rfl, ho0, hb⟩; refine ⟨_, rfl, ?_⟩; have n0_ := Aside0.mk (Kd.R_elder' (rz HO_4.out) (Kd.R_base ho0) hb); have n1_ := Aside0.mk (Kd.R_elder' (rz HO_6.out) (Kd.R_base ho0) hb); have n2_ := Aside0.mk (Kd.R_below (rz HO570.out) hb); have n3_ := Aside0.mk (Kd.R_below (rz HO573.out) hb); have n4_ := Aside0.mk (Kd.R_lower (Kd.R_new' (Kd.R_new' ho0 (Kd.R_lt (rz HO_4.out))) (Kd.R_lt (rz HO_6.out))) (below_size bz)); have n5_ := Aside0.mk (blk_below (g := gb530) (o := .cells #[.int .i64 a0_0, .slice A0_1 l0_1.length c0_1, .slice A0_2 l0_2.length c0_2] 25 (0, 0)) kz hb); have n6_ := Aside0.mk (below_step bz hb); clear HO_4; clear HO_6; clear HO570; clear HO573; clear BK530; clear HB; have HO_4 := n0_; have HO_6 := n1_; have HO570 := n2_; have HO573 := n3_; have HO576 := n4_; have BK530 := n5_; have HB := n6_; clear n0_ n1_ n2_ n3_ n4_ n5_ n6_; (try clear hb); (try clear hb2); (try clear hk); (try clear hi); (try clear ho0); obtain ⟨Ao74, co74, eo74⟩ := Kd.R_slice HO576.out; subst eo74) | ((with_reducible refine gate_callee (f := 25) rfl ?_); refine goesL_ (some 59) rfl rfl Try.func25 (by kernel_rfl) rfl #[.slice Ao74 t574.length co74, .slice Ao35 t539.length co35] rfl lz ?_; (with_reducible refine (laws_eqIntervalS.calls kj16 _ _ t574 _ _ t539 true _ ?side1 ?side2 ?side3 ?side4 A55.out).mono ?_); (case side1 => repeat (first | exact (Kd.R_reads' HO576.out).2.2 | (with_reducible refine Kd.C_alloc ?_ _) | (with_reducible refine Kd.C_drewN ?_ _) | (with_reducible refine Kd.C_drew ?_))); (case side2 => exact (Kd.R_reads' HO576.out).2.1); (case side3 => repeat (first | exact (Kd.R_reads' HO_4.out).2.2 | (with_reducible refine Kd.C_alloc ?_ _) | (with_reducible refine Kd.C_drewN ?_ _) | (with_reducible refine Kd.C_drew ?_))); (case side4 => exact (Kd.R_reads' HO_4.out).2.1); rintro e w75 ⟨rfl, hb⟩; refine ⟨_, rfl, ?_⟩; have n0_ := Aside0.mk (Kd.R_below (rz HO_4.out) hb); have n1_ := Aside0.mk (Kd.R_below (rz HO_6.out) hb); have n2_ := Aside0.mk (Kd.R_below (rz HO570.out) hb); have n3_ := Aside0.mk (Kd.R_below (rz HO573.out) hb); have n4_ := Aside0.mk (Kd.R_below (rz HO576.out) hb); have n5_ := Aside0.mk (blk_below (g := gb530) (o := .cells #[.int .i64 a0_0, .slice A0_1 l0_1.length c0_1, .slice A0_2 l0_2.length c0_2] 25 (0, 0)) kz hb); have n6_ := Aside0.mk (below_step bz hb); clear HO_4; clear HO_6; clear HO570; clear HO573; clear HO576; clear BK530; clear HB; have HO_4 := n0_; have HO_6 := n1_; have HO570 := n2_; have HO573 := n3_; have HO576 := n4_; have BK530 := n5_; have HB := n6_; clear n0_ n1_ n2_ n3_ n4_ n5_ n6_; (try clear hb); (try clear hb2); (try clear hk); (try clear hi)) | ((with_reducible refine gate_callee (f := 27) rfl ?_); refine goesL_ (some 63) rfl rfl Try.func27 (by kernel_rfl) rfl #[.slice Ao34 t565.length co34, .int .i64 1] rfl (by (try simp only [List.map_toArray, List.map_cons, List.map_nil]); first | done | (rw [show t565.length = t550.length from (Kd.R_reads' HO_6.out).1.symm] <;> rfl) | rfl | (simp only [List.length_drop, List.length_take]; rfl)) ?_; (with_reducible refine (laws_heldIntervalS.calls kj16 _ _ t565 1 t578 _ ?side1 ?side2 A57.out).mono ?_); (case side1 => repeat (first | exact (Kd.R_reads' HO_6.out).2.2 | (with_reducible refine Kd.C_alloc ?_ _) | (with_reducible refine Kd.C_drewN ?_ _) | (with_reducible refine Kd.C_drew ?_))); (case side2 => rw [show t565.length = t550.length from (Kd.R_reads' HO_6.out).1.symm]; exact (Kd.R_reads' HO_6.out).2.1); rintro e w' ⟨rfl, ⟨nd, rfl⟩⟩; refine ⟨_, rfl, ?_⟩))
                     go_ret
                     exact ⟨by first | rfl | (simp [errW_none, errW_some] <;> rfl) | (simp [*, errW_none, errW_some] <;> rfl), bz⟩
                   · rw [if_neg c67] at H
                     have c67b0 : (t578 == t564) = false := beq_eq_false_iff_ne.mpr c67
                     have c67b1 : (t578 != t564) = true := bne_iff_ne.mpr c67
                     exact Bool.noConfusion ((Option.some.inj H).trans hr_.out)
               · replace c56 := Bool.eq_false_iff.mpr c56
                 subst c56
                 have H1 : (some false) = some r := by rw [if_neg (show ¬ (false = true) by decide)] at H; exact H
                 clear H
                 have H := H1
                 clear H1
                 exact Bool.noConfusion ((Option.some.inj H).trans hr_.out)
             · rw [if_neg c52] at H
               have c52b0 : (t566 == t564) = false := beq_eq_false_iff_ne.mpr c52
               have c52b1 : (t566 != t564) = true := bne_iff_ne.mpr c52
               exact Bool.noConfusion ((Option.some.inj H).trans hr_.out)
     · replace c15 := Bool.eq_false_iff.mpr c15
       subst c15
       have H1 : (some false) = some r := by rw [if_neg (show ¬ (false = true) by decide)] at H; exact H
       clear H
       have H := H1
       clear H1
       exact Bool.noConfusion ((Option.some.inj H).trans hr_.out)
   · replace c12 := Bool.eq_false_iff.mpr c12
     subst c12
     have H1 : (some false) = some r := by rw [if_neg (show ¬ (false = true) by decide)] at H; exact H
     clear H
     have H := H1
     clear H1
     exact Bool.noConfusion ((Option.some.inj H).trans hr_.out)

end Go.Proofs.Ythegbhfoleiegaa.All

/- What reads as data of a type can be read as a value of its kind. -/
namespace Go.Proofs.Ythegbhfoleiegaa.All
open Go.RowKit Go.Proofs.YthegbhfoleiegaaW.PrintWords Go.Proofs.YthegbhfoleiegaaW.PrintLast Go.Proofs.YthegbhfoleiegaaW.PrintMore
set_option linter.unusedVariables false
set_option linter.unusedSimpArgs false
structure Rdb {α : Type} (d : Kd α) (P : Program) (t : TypeId) (ok : α → Prop) : Prop where
  sz : P.cellsOf t = d.sz
  rd : ∀ {H : Type} {enc : TypeId × Value → H} {w : World} {base : Nat} {sp : Nat → Bool} {held : Bool} {fuel : Nat} {cs : List Value} {x : DataW H × List MemPlace}, DataW.trod enc P w base sp held fuel t cs = some x → ∃ a, d.K w a cs ∧ ok a
theorem Rdb.int {P : Program} {t : TypeId} {k : IntKind} (ht : P.underlying t = some (.int k)) (hs : P.cellsOf t = 1) : Rdb (Kd.int k) P t (fun a => (Lit.int k a).wf = true) :=
  ⟨hs, fun h => by obtain ⟨n, rfl, _, hw⟩ := DataW.trod_int ht h; exact ⟨n, rfl, hw⟩⟩
theorem Rdb.bool {P : Program} {t : TypeId} (ht : P.underlying t = some .bool) (hs : P.cellsOf t = 1) : Rdb Kd.bool P t (fun _ => True) :=
  ⟨hs, fun h => by obtain ⟨b, rfl, _⟩ := DataW.trod_bool ht h; exact ⟨b, rfl, trivial⟩⟩
theorem Rdb.string {P : Program} {t : TypeId} (ht : P.underlying t = some .string) (hs : P.cellsOf t = 1) : Rdb Kd.string P t (fun s => s.size ≤ 9223372036854775807) :=
  ⟨hs, fun h => by obtain ⟨s, rfl, _, hm⟩ := DataW.trod_string ht h; exact ⟨s, rfl, hm⟩⟩
theorem rdb_list {α : Type} {P : Nat → α → Prop} : ∀ n : Nat, (∀ j, j < n → ∃ x, P j x) → ∃ l : List α, l.length = n ∧ ∀ (j : Nat) (x : α), l[j]? = some x → P j x
  | 0, _ => ⟨[], rfl, fun j x h => by simp at h⟩
  | n + 1, h => by
    obtain ⟨l, hl, hp⟩ := rdb_list n (fun j hj => h j (by omega))
    obtain ⟨x, hx⟩ := h n (by omega)
    refine ⟨l ++ [x], by simp [hl], fun j y hy => ?_⟩
    by_cases hj : j < n
    · rw [List.getElem?_append_left (by omega)] at hy
      exact hp j y hy
    · have hlt := (List.getElem?_eq_some_iff.1 hy).1
      simp [hl] at hlt
      have : j = n := by omega
      subst this
      rw [List.getElem?_append_right (by omega)] at hy
      simp [hl] at hy
      subst hy
      exact hx
theorem Rdb.slice {α : Type} {d : Kd α} {P : Program} {t e : TypeId} {ok : α → Prop} (ht : P.underlying t = some (.slice e)) (hs : P.cellsOf t = 1) (h : Rdb d P e ok) : Rdb (Kd.slice e d) P t (fun xs => xs.length ≤ 9223372036854775807 ∧ ∀ x ∈ xs, ok x) := by
  refine ⟨hs, fun {H enc w base sp held fuel cs x} hx => ?_⟩
  rcases Deep.open_slice ht hx with ⟨rfl, _⟩ | ⟨a, len, cap, m, n, D, Pl, rfl, hb, hl, hm, hmm, _, hel⟩
  · exact ⟨[], ⟨none, 0, rfl, Nat.le_refl _, rfl, by simp, fun h0 => by simp at h0⟩, by simp, fun x hx => by simp at hx⟩
  · have hmax : len ≤ 9223372036854775807 := Nat.le_trans hl hm
    have hlm : len ≤ m := by rw [hmm]; split <;> omega
    obtain ⟨xs, hlen, hxs⟩ := rdb_list (P := fun j (x : α) => ok x ∧ ∃ c, c.length = d.sz ∧ d.K w x c ∧ ∀ (i : Nat) (u : Value), c[i]? = some u → w.cell? (a.add (j * d.sz + i)) = some u) len (fun j hj => by
      obtain ⟨cs', hc, htr⟩ := hel j (by omega)
      obtain ⟨x, hK, hok⟩ := h.rd htr
      obtain ⟨_, hcl, hcc⟩ := World.cells?_some hc
      rw [h.sz] at hcl hcc
      refine ⟨x, hok, cs', hcl, hK, fun i u hu => ?_⟩
      have hi := (List.getElem?_eq_some_iff.1 hu).1
      have := hcc i (by omega)
      rw [Addr.add_add] at this
      exact this.trans hu)
    refine ⟨xs, ⟨some a, cap, by rw [hlen], by omega, rfl, by omega, fun _ => ⟨a, rfl, fun j p hj => (hxs j p hj).2⟩⟩, by omega, fun x hx => ?_⟩
    obtain ⟨j, hj⟩ := List.getElem?_of_mem hx
    exact (hxs j x hj).1
/-- The fields of a struct (types and places) from cell 'off' on. -/
structure RdbFs {α : Type} (d : Kd α) (P : Program) (fs : List (TypeId × Nat)) (off : Nat) (ok : α → Prop) : Prop where
  rd : ∀ {H : Type} {enc : TypeId × Value → H} {w : World} {base : Nat} {sp : Nat → Bool} {held : Bool} {n : Nat} {cs : List Value}, cs.length = off + d.sz →
    (∀ f ∈ fs, ∃ x, DataW.trod enc P w base sp held n f.1 ((cs.drop f.2).take (P.cellsOf f.1)) = some x) → ∃ a, d.K w a (cs.drop off) ∧ ok a
theorem RdbFs.one {α : Type} {d : Kd α} {P : Program} {t : TypeId} {off : Nat} {ok : α → Prop} (h : Rdb d P t ok) : RdbFs d P [(t, off)] off ok := by
  refine ⟨fun {H enc w base sp held n cs} hl hf => ?_⟩
  obtain ⟨x, hx⟩ := hf (t, off) (by simp)
  simp only at hx
  rw [h.sz, List.take_of_length_le (by rw [List.length_drop]; omega)] at hx
  exact h.rd hx
theorem RdbFs.cons {α β : Type} {a : Kd α} {b : Kd β} {P : Program} {t : TypeId} {fs : List (TypeId × Nat)} {off off' : Nat} {ok : α → Prop} {ok' : β → Prop} (ho : off + a.sz = off') (h : Rdb a P t ok) (hs : RdbFs b P fs off' ok') : RdbFs (Kd.pair a b) P ((t, off) :: fs) off (fun x => ok x.1 ∧ ok' x.2) := by
  subst ho
  refine ⟨fun {H enc w base sp held n cs} hl hf => ?_⟩
  have hl' : cs.length = off + a.sz + b.sz := by rw [hl]; show off + (a.sz + b.sz) = _; omega
  obtain ⟨x, hx⟩ := hf (t, off) (by simp)
  simp only at hx
  rw [h.sz] at hx
  obtain ⟨y, hy, oky⟩ := h.rd hx
  obtain ⟨z, hz, okz⟩ := hs.rd hl' (fun g hg => hf g (by simp [hg]))
  refine ⟨(y, z), ⟨(cs.drop off).take a.sz, cs.drop (off + a.sz), ?_, hy, hz⟩, oky, okz⟩
  rw [← List.drop_drop, List.take_append_drop]
theorem Rdb.struct {α : Type} {d : Kd α} {P : Program} {t : TypeId} {fs : Array Field} {ok : α → Prop} (ht : P.underlying t = some (.struct fs)) (hs : P.cellsOf t = d.sz) (tos : List (TypeId × Nat)) (htos : fs.toList.map (fun f => (f.type, f.offset)) = tos) (h : RdbFs d P tos 0 ok) : Rdb d P t ok := by
  subst htos
  refine ⟨hs, fun hx => ?_⟩
  obtain ⟨xs, n, rfl, rfl, hl, hxl, hf⟩ := DataW.trod_struct ht hx
  have := h.rd (n := n) (by rw [hl, hs, Nat.zero_add]) (fun f hfm => by
    obtain ⟨f', hf', rfl⟩ := List.mem_map.1 hfm
    obtain ⟨i, hi⟩ := List.getElem?_of_mem hf'
    rw [Array.getElem?_toList] at hi
    have h1 := hf i f' hi
    have hlt : i < xs.length := by rw [hxl]; exact (Array.getElem?_eq_some_iff.1 hi).1
    exact ⟨xs[i], by rw [h1, List.getElem?_eq_getElem hlt]⟩)
  simpa using this
theorem Rdb.iso {α β : Type} {d : Kd α} {P : Program} {t : TypeId} {ok : α → Prop} {f : β → α} (h : Rdb d P t ok) (g : α → β) (hg : ∀ y, f (g y) = y) : Rdb (Kd.iso d f) P t (fun x => ok (f x)) :=
  ⟨h.sz, fun hx => by
    obtain ⟨a, hK, hok⟩ := h.rd hx
    refine ⟨g a, ?_, by rw [hg]; exact hok⟩
    show d.K _ (f (g a)) _
    rw [hg]
    exact hK⟩
theorem Rdb.imp {α : Type} {d : Kd α} {P : Program} {t : TypeId} {ok ok' : α → Prop} (h : Rdb d P t ok) (hi : ∀ a, ok a → ok' a) : Rdb d P t ok' :=
  ⟨h.sz, fun hx => by obtain ⟨a, hK, hok⟩ := h.rd hx; exact ⟨a, hK, hi a hok⟩⟩
end Go.Proofs.Ythegbhfoleiegaa.All

/- How the laws' arguments read. Printed by gen_row.py. -/
namespace Go.Proofs.Ythegbhfoleiegaa.All
open Go.RowKit Go.Proofs.YthegbhfoleiegaaW.PrintWords
set_option linter.unusedVariables false
def ok224 (x : S224) : Prop := (Lit.int .i64 x.f0).wf = true ∧ (Lit.int .i64 x.f1).wf = true ∧ (Lit.int .i64 x.f2).wf = true ∧ (Lit.int .i64 x.f3).wf = true ∧ (Lit.int .i64 x.f4).wf = true ∧ (Lit.int .i64 x.f5).wf = true ∧ x.f6.size ≤ 9223372036854775807 ∧ (x.f7.length ≤ 9223372036854775807 ∧ ∀ y ∈ x.f7, (Lit.int .i64 y).wf = true)
set_option maxRecDepth 100000 in
theorem rdb224 : Rdb k224 Try.prog 224 ok224 := Rdb.iso (f := fun x : S224 => (x.f0, x.f1, x.f2, x.f3, x.f4, x.f5, x.f6, x.f7)) (Rdb.struct Try.underlying224 (by kernel_rfl) [(2, 0), (2, 1), (2, 2), (2, 3), (2, 4), (2, 5), (9, 6), (22, 7)] rfl (RdbFs.cons rfl (Rdb.int Try.underlying2 (by kernel_rfl)) (RdbFs.cons rfl (Rdb.int Try.underlying2 (by kernel_rfl)) (RdbFs.cons rfl (Rdb.int Try.underlying2 (by kernel_rfl)) (RdbFs.cons rfl (Rdb.int Try.underlying2 (by kernel_rfl)) (RdbFs.cons rfl (Rdb.int Try.underlying2 (by kernel_rfl)) (RdbFs.cons rfl (Rdb.int Try.underlying2 (by kernel_rfl)) (RdbFs.cons rfl (Rdb.string Try.underlying9 (by kernel_rfl)) (RdbFs.one (Rdb.slice Try.underlying22 (by kernel_rfl) (Rdb.int Try.underlying2 (by kernel_rfl)))))))))))) (fun y => (⟨y.1, y.2.1, y.2.2.1, y.2.2.2.1, y.2.2.2.2.1, y.2.2.2.2.2.1, y.2.2.2.2.2.2.1, y.2.2.2.2.2.2.2⟩ : S224)) (fun _ => rfl)
def ok165 (x : S165) : Prop := (x.f0.length ≤ 9223372036854775807 ∧ ∀ y ∈ x.f0, ok224 y)
set_option maxRecDepth 100000 in
theorem rdb165 : Rdb k165 Try.prog 165 ok165 := Rdb.iso (f := fun x : S165 => x.f0) (Rdb.struct Try.underlying165 (by kernel_rfl) [(163, 0)] rfl (RdbFs.one (Rdb.slice Try.underlying163 (by kernel_rfl) rdb224))) (fun y => (⟨y⟩ : S165)) (fun _ => rfl)
set_option maxRecDepth 100000 in
theorem rdbTop25 : Rdb (Kd.pair (Kd.int .i64) (Kd.pair (Kd.slice 2 (Kd.int .i64)) (Kd.slice 165 k165))) Try.prog 25 (fun x => (Lit.int .i64 x.1).wf = true ∧ (x.2.1.length ≤ 9223372036854775807 ∧ ∀ y ∈ x.2.1, (Lit.int .i64 y).wf = true) ∧ (x.2.2.length ≤ 9223372036854775807 ∧ ∀ y ∈ x.2.2, ok165 y)) := Rdb.struct Try.underlying25 (by kernel_rfl) [(2, 0), (22, 1), (23, 2)] rfl (RdbFs.cons rfl (Rdb.int Try.underlying2 (by kernel_rfl)) (RdbFs.cons rfl (Rdb.slice Try.underlying22 (by kernel_rfl) (Rdb.int Try.underlying2 (by kernel_rfl))) (RdbFs.one (Rdb.slice Try.underlying23 (by kernel_rfl) rdb165))))
end Go.Proofs.Ythegbhfoleiegaa.All

/- Plain laws: the hulls of both programs, told of sets of points. -/
namespace Go.Proofs.Ythegbhfoleiegaa.All
open Go.RowKit Go.Proofs.YthegbhfoleiegaaW.PrintWords Go.Proofs.YthegbhfoleiegaaW.PrintLast Go.Proofs.YthegbhfoleiegaaW.PrintMore
set_option linter.unusedVariables false
set_option linter.unusedSimpArgs false
abbrev Pts := Int → Int → Prop
structure InvH (n : Nat) (H : List (S111)) (S : Pts) : Prop where
  len : H.length = n
  no : ∀ r : Nat, r < n → (rd_T111 H (r : Int)).f0 = false → ∀ p, ¬ S (r : Int) p
  yes : ∀ r : Nat, r < n → (rd_T111 H (r : Int)).f0 = true → S (r : Int) (rd_T111 H (r : Int)).f1 ∧ S (r : Int) (rd_T111 H (r : Int)).f2 ∧ ∀ p, S (r : Int) p → (rd_T111 H (r : Int)).f1 ≤ p ∧ p ≤ (rd_T111 H (r : Int)).f2
theorem InvH.congr {n : Nat} {H : List (S111)} {S T : Pts} (h : InvH n H S) (e : ∀ r p, S r p ↔ T r p) : InvH n H T := by
  have : S = T := funext fun r => funext fun p => propext (e r p)
  exact this ▸ h
theorem rdSetNe (H : List (S111)) (r x : Int) (v : S111) (h0 : 0 ≤ r) (hx : 0 ≤ x) (hne : x ≠ r) : rd_T111 (H.set r.toNat v) x = rd_T111 H x := by
  unfold rd_T111
  rw [List.getD_eq_getElem?_getD, List.getElem?_set, if_neg (by omega), ← List.getD_eq_getElem?_getD]
theorem InvH.grow {n : Nat} {H : List (S111)} {S : Pts} (h : InvH n H S) (r p : Int) : InvH n (growL H r p) (fun x q => S x q ∨ (x = r ∧ q = p)) := by
  have hlen := h.len
  unfold growL
  split
  · rename_i hr
    rw [hlen] at hr
    refine ⟨hlen, fun x hx h0 q hq => ?_, fun x hx h0 => ?_⟩
    · rcases hq with hq | ⟨hq, _⟩
      · exact h.no x hx h0 q hq
      · omega
    · obtain ⟨h1, h2, h3⟩ := h.yes x hx h0
      refine ⟨.inl h1, .inl h2, fun q hq => ?_⟩
      rcases hq with hq | ⟨hq, _⟩
      · exact h3 q hq
      · omega
  · rename_i hr
    rw [hlen] at hr
    have hr0 : 0 ≤ r := by omega
    have hr1 : r < (n : Int) := by omega
    have hr2 : r < (H.length : Int) := by rw [hlen]; exact hr1
    refine ⟨by rw [List.length_set, hlen], fun x hx h0 q hq => ?_, fun x hx h0 => ?_⟩
    · by_cases e : (x : Int) = r
      · rw [e, rdSet H r _ hr0 hr2] at h0
        split at h0 <;> cases h0
      · rw [rdSetNe H r x _ hr0 (by omega) e] at h0
        rcases hq with hq | ⟨hq, _⟩
        · exact h.no x hx h0 q hq
        · exact e hq
    · by_cases e : (x : Int) = r
      · by_cases c : (rd_T111 H r).f0 = true
        · have hy := h.yes x hx (by rw [e]; exact c)
          rw [e] at hy ⊢
          rw [rdSet H r _ hr0 hr2, if_pos c]
          obtain ⟨h1, h2, h3⟩ := hy
          dsimp only
          refine ⟨?_, ?_, fun q hq => ?_⟩
          · split
            · exact .inr ⟨rfl, rfl⟩
            · exact .inl h1
          · split
            · exact .inr ⟨rfl, rfl⟩
            · exact .inl h2
          · rcases hq with hq | ⟨_, rfl⟩
            · have := h3 q hq
              constructor <;> split <;> omega
            · constructor <;> split <;> omega
        · have hno := h.no x hx (by rw [e]; simpa using c)
          rw [e] at hno ⊢
          rw [rdSet H r _ hr0 hr2, if_neg c]
          dsimp only
          refine ⟨.inr ⟨rfl, rfl⟩, .inr ⟨rfl, rfl⟩, fun q hq => ?_⟩
          rcases hq with hq | ⟨_, rfl⟩
          · exact absurd hq (hno q)
          · exact ⟨Int.le_refl _, Int.le_refl _⟩
      · rw [rdSetNe H r x _ hr0 (by omega) e] at h0 ⊢
        obtain ⟨h1, h2, h3⟩ := h.yes x hx h0
        refine ⟨.inl h1, .inl h2, fun q hq => ?_⟩
        rcases hq with hq | ⟨hq, _⟩
        · exact h3 q hq
        · exact absurd hq e
theorem InvH.row {n : Nat} {H : List (S111)} {S : Pts} (h : InvH n H S) (row : List Bool) (p : Int) : ∀ m, InvH n (growRow row m H p) (fun x q => S x q ∨ (q = p ∧ ∃ c : Nat, c < m ∧ row.getD c false = true ∧ x = (c : Int)))
  | 0 => h.congr fun r q => ⟨.inl, fun h => h.elim id fun ⟨_, c, h1, _⟩ => absurd h1 (Nat.not_lt_zero _)⟩
  | m + 1 => by
    have ih := InvH.row h row p m
    rw [growRow_succ]
    split
    · rename_i hc
      refine (ih.grow (m : Int) p).congr fun x q => ⟨?_, ?_⟩
      · rintro ((h1 | ⟨rfl, c, h2, h3, h4⟩) | ⟨rfl, rfl⟩)
        · exact .inl h1
        · exact .inr ⟨rfl, c, by omega, h3, h4⟩
        · exact .inr ⟨rfl, m, by omega, hc, rfl⟩
      · rintro (h1 | ⟨rfl, c, h2, h3, h4⟩)
        · exact .inl (.inl h1)
        · by_cases e : c = m
          · subst e; exact .inr ⟨h4, rfl⟩
          · exact .inl (.inr ⟨rfl, c, by omega, h3, h4⟩)
    · rename_i hc
      refine ih.congr fun x q => or_congr Iff.rfl (and_congr Iff.rfl ⟨fun ⟨c, h2, h3⟩ => ⟨c, by omega, h3⟩, fun ⟨c, h2, h3, h4⟩ => ⟨c, ?_, h3, h4⟩⟩)
      by_cases e : c = m
      · subst e; exact absurd h3 hc
      · omega
theorem InvH.rowB {n : Nat} {H : List (S111)} {S : Pts} (h : InvH n H S) (L : List (List Bool)) (b : Nat) (p : Int) : InvH n (growRow (L.getD b []) (L.getD b []).length H p) (fun x q => S x q ∨ (q = p ∧ SB L b x)) := by
  refine (h.row _ p _).congr fun x q => or_congr Iff.rfl (and_congr Iff.rfl ⟨fun ⟨c, _, h2, h3⟩ => ?_, fun ⟨h1, h2⟩ => ⟨x.toNat, ?_, h2, by omega⟩⟩)
  · subst h3
    exact ⟨by omega, by rw [Int.toNat_natCast]; exact h2⟩
  · rcases Nat.lt_or_ge x.toNat (L.getD b []).length with h3 | h3
    · exact h3
    · rw [List.getD_eq_getElem?_getD (l := L.getD b []), List.getElem?_eq_none h3] at h2
      cases h2
theorem InvH.reads {n : Nat} (p : Int) : ∀ (rs : List Int) {H : List (S111)} {S : Pts}, InvH n H S → InvH n (rs.foldl (fun H r => growL H r p) H) (fun x q => S x q ∨ (q = p ∧ x ∈ rs))
  | [], H, S, h => h.congr fun x q => ⟨.inl, fun h => h.elim id fun ⟨_, h⟩ => by cases h⟩
  | r :: rs, H, S, h => (InvH.reads p rs (h.grow r p)).congr fun x q => by
    constructor
    · rintro ((h1 | ⟨rfl, rfl⟩) | ⟨rfl, h1⟩)
      · exact .inl h1
      · exact .inr ⟨rfl, by simp⟩
      · exact .inr ⟨rfl, by simp [h1]⟩
    · rintro (h1 | ⟨rfl, h1⟩)
      · exact .inl (.inl h1)
      · rcases List.mem_cons.1 h1 with rfl | h1
        · exact .inl (.inr ⟨rfl, rfl⟩)
        · exact .inr ⟨rfl, h1⟩
def ptI (i : S87) (a x q : Int) : Prop := (x ∈ readsL i ∧ q = 2 * a) ∨ (x = i.f1 ∧ q = 2 * a + 1)
def jT (nb : Nat) (T : Nat → Int → Prop) (i : S87) (x : Int) : Prop := jumpsB i.f0 = true ∧ 0 ≤ i.f5 ∧ i.f5 < (nb : Int) ∧ T i.f5.toNat x
theorem InvH.ins {n : Nat} {H : List (S111)} {S : Pts} (h : InvH n H S) (nb : Nat) (L : List (List Bool)) (last : Int) (i : S87) (a : Int) : InvH n (hullIns nb L last H i a) (fun x q => S x q ∨ (ptI i a x q ∨ (q = last ∧ jT nb (SB L) i x))) := by
  have hb : InvH n (growL (growReads (readsL i) (readsL i).length H (2 * a)) i.f1 (2 * a + 1)) (fun x q => S x q ∨ ptI i a x q) := by
    unfold growReads
    rw [List.take_length]
    refine ((InvH.reads (2 * a) (readsL i) h).grow i.f1 (2 * a + 1)).congr fun x q => ?_
    unfold ptI
    rw [or_assoc, and_comm (a := q = 2 * a)]
  unfold hullIns
  by_cases c : jumpsB i.f0 = true ∧ 0 ≤ i.f5 ∧ i.f5 < (nb : Int)
  · have et : targetOf nb i = i.f5 := by unfold targetOf; rw [if_pos c]
    rw [et, if_pos c.2.1]
    refine (hb.rowB L i.f5.toNat last).congr fun x q => ?_
    rw [or_assoc]
    refine or_congr Iff.rfl (or_congr Iff.rfl (and_congr Iff.rfl ?_))
    exact ⟨fun h => ⟨c.1, c.2.1, c.2.2, h⟩, fun h => h.2.2.2⟩
  · have et : targetOf nb i = -1 := by unfold targetOf; rw [if_neg c]
    rw [et, if_neg (by omega)]
    refine hb.congr fun x q => ?_
    refine or_congr Iff.rfl ⟨.inl, fun h => h.elim id fun ⟨_, h⟩ => absurd ⟨h.1, h.2.1, h.2.2.1⟩ c⟩
theorem InvH.blk {n : Nat} (nb : Nat) (L : List (List Bool)) (is : List (S87)) (first : Int) (s : List (S111) × List Int) {S : Pts} (h : InvH n s.1 S) : ∀ m, InvH n (hullBlk nb L is first m s).1 (fun x q => S x q ∨ ∃ j : Nat, j < m ∧ (ptI (rd_T87 is (j : Int)) (first + (j : Int)) x q ∨ (q = 2 * (first + (is.length : Nat) - 1) + 1 ∧ jT nb (SB L) (rd_T87 is (j : Int)) x)))
  | 0 => h.congr fun x q => ⟨.inl, fun h => h.elim id fun ⟨j, h, _⟩ => absurd h (Nat.not_lt_zero _)⟩
  | m + 1 => by
    have ih := InvH.blk nb L is first s h m
    rw [hullBlk_succ]
    refine (ih.ins nb L _ (rd_T87 is (m : Int)) (first + (m : Int))).congr fun x q => ⟨?_, ?_⟩
    · rintro ((h1 | ⟨j, h1, h2⟩) | h1)
      · exact .inl h1
      · exact .inr ⟨j, by omega, h2⟩
      · exact .inr ⟨m, by omega, h1⟩
    · rintro (h1 | ⟨j, h1, h2⟩)
      · exact .inl (.inl h1)
      · by_cases e : j = m
        · subst e; exact .inr h2
        · exact .inl (.inr ⟨j, by omega, h2⟩)
/-- The points of block b: where registers that are live at its start begin; where it reads and writes; where those end that are live at its jumps' ends. -/
def ptS (bl : List (S85)) (T : Nat → Int → Prop) (b : Nat) (x q : Int) : Prop := (insAt bl b).length ≠ 0 ∧ q = 2 * (firstH bl b : Nat) ∧ T b x
def ptR (bl : List (S85)) (b : Nat) (x q : Int) : Prop := ∃ j : Nat, j < (insAt bl b).length ∧ ptI (rd_T87 (insAt bl b) (j : Int)) ((firstH bl b : Nat) + (j : Int)) x q
def ptL (bl : List (S85)) (T : Nat → Int → Prop) (b : Nat) (x q : Int) : Prop := ∃ j : Nat, j < (insAt bl b).length ∧ (q = 2 * (((firstH bl b : Nat) : Int) + ((insAt bl b).length : Nat) - 1) + 1 ∧ jT bl.length T (rd_T87 (insAt bl b) (j : Int)) x)
def ptsH (bl : List (S85)) (T : Nat → Int → Prop) (m : Nat) : Pts := fun x q => ∃ b : Nat, b < m ∧ (ptS bl T b x q ∨ ptR bl b x q ∨ ptL bl T b x q)
theorem InvH.pass (bl : List (S85)) (L : List (List Bool)) (n : Nat) : ∀ m, InvH n (hullPass bl L n m).1 (ptsH bl (SB L) m)
  | 0 => by
    have h0 : ∀ r : Nat, r < n → rd_T111 (List.replicate n (⟨false, 0, 0⟩ : S111)) (r : Int) = ⟨false, 0, 0⟩ := fun r hr => by unfold rd_T111; rw [Int.toNat_natCast, List.getD_eq_getElem?_getD, List.getElem?_replicate, if_pos hr]; rfl
    refine ⟨by simp [hullPass], fun r _ _ p ⟨b, h, _⟩ => absurd h (Nat.not_lt_zero _), fun r hr h => ?_⟩
    have h1 : (rd_T111 (List.replicate n (⟨false, 0, 0⟩ : S111)) (r : Int)).f0 = true := h
    rw [h0 r hr] at h1
    cases h1
  | m + 1 => by
    have ih := InvH.pass bl L n m
    rw [hullPass_succ]
    split
    · rename_i hz
      refine ih.congr fun x q => ⟨fun ⟨b, h1, h2⟩ => ⟨b, by omega, h2⟩, fun ⟨b, h1, h2⟩ => ⟨b, ?_, h2⟩⟩
      by_cases e : b = m
      · subst e
        rcases h2 with h2 | ⟨j, h2, _⟩ | ⟨j, h2, _⟩
        · exact absurd hz h2.1
        · omega
        · omega
      · omega
    · rename_i hz
      refine (InvH.blk bl.length L (insAt bl m) (firstH bl m : Nat) (_, _) (ih.rowB L m (2 * (firstH bl m : Nat))) (insAt bl m).length).congr fun x q => ⟨?_, ?_⟩
      · rintro ((⟨b, h1, h2⟩ | ⟨h1, h2⟩) | ⟨j, h1, h2 | h2⟩)
        · exact ⟨b, by omega, h2⟩
        · exact ⟨m, by omega, .inl ⟨hz, h1, h2⟩⟩
        · exact ⟨m, by omega, .inr (.inl ⟨j, h1, h2⟩)⟩
        · exact ⟨m, by omega, .inr (.inr ⟨j, h1, h2⟩)⟩
      · rintro ⟨b, h1, h2⟩
        by_cases e : b = m
        · subst e
          rcases h2 with h2 | ⟨j, h2, h3⟩ | ⟨j, h2, h3⟩
          · exact .inl (.inr h2.2)
          · exact .inr ⟨j, h2, .inl h3⟩
          · exact .inr ⟨j, h2, .inr h3⟩
        · exact .inl (.inl ⟨b, by omega, h2⟩)
/-! impl's side -/
structure InvT (s : StT) (S : Pts) : Prop where
  keys : ∀ x, x ∈ s.1 ↔ 0 ≤ x ∧ ∃ q, S x q
  nd : s.1.Nodup
  ends : ∀ x, x ∈ s.1 → S x (s.2.1 x) ∧ S x (s.2.2 x) ∧ ∀ q, S x q → s.2.1 x ≤ q ∧ q ≤ s.2.2 x
theorem InvT.congr {s : StT} {S T : Pts} (h : InvT s S) (e : ∀ x q, 0 ≤ x → (S x q ↔ T x q)) : InvT s T := by
  refine ⟨fun x => (h.keys x).trans ⟨fun ⟨h0, q, h1⟩ => ⟨h0, q, (e x q h0).1 h1⟩, fun ⟨h0, q, h1⟩ => ⟨h0, q, (e x q h0).2 h1⟩⟩, h.nd, fun x hx => ?_⟩
  have h0 := ((h.keys x).1 hx).1
  obtain ⟨h1, h2, h3⟩ := h.ends x hx
  exact ⟨(e x _ h0).1 h1, (e x _ h0).1 h2, fun q hq => h3 q ((e x q h0).2 hq)⟩
theorem InvT.touch {s : StT} {S : Pts} (h : InvT s S) (r p : Int) (hr : 0 ≤ r) : InvT (touchS s r p) (fun x q => S x q ∨ (x = r ∧ q = p)) := by
  refine ⟨fun x => ?_, insK_nodup h.nd r, fun x hx => ?_⟩
  · show x ∈ insK s.1 r ↔ _
    rw [insK_mem, h.keys x]
    constructor
    · rintro (⟨h0, q, h1⟩ | rfl)
      · exact ⟨h0, q, .inl h1⟩
      · exact ⟨hr, p, .inr ⟨rfl, rfl⟩⟩
    · rintro ⟨h0, q, h1 | ⟨h1, _⟩⟩
      · exact .inl ⟨h0, q, h1⟩
      · exact .inr h1
  · have hx2 : x ∈ s.1 ∨ x = r := (insK_mem _ _ _).1 hx
    show (S x (tB s.1 s.2.1 r p x) ∨ (x = r ∧ tB s.1 s.2.1 r p x = p)) ∧ (S x (tE s.1 s.2.2 r p x) ∨ (x = r ∧ tE s.1 s.2.2 r p x = p)) ∧ ∀ q, (S x q ∨ (x = r ∧ q = p)) → tB s.1 s.2.1 r p x ≤ q ∧ q ≤ tE s.1 s.2.2 r p x
    unfold tB tE updI
    by_cases e : x = r
    · subst e
      simp only [if_true]
      by_cases hm : x ∈ s.1
      · rw [if_pos hm, if_pos hm]
        obtain ⟨h1, h2, h3⟩ := h.ends x hm
        refine ⟨?_, ?_, ?_⟩
        · rcases Int.le_total (s.2.1 x) p with h4 | h4
          · rw [Int.min_eq_left h4]; exact .inl h1
          · rw [Int.min_eq_right h4]; exact .inr ⟨trivial, rfl⟩
        · rcases Int.le_total (s.2.2 x) p with h4 | h4
          · rw [Int.max_eq_right h4]; exact .inr ⟨trivial, rfl⟩
          · rw [Int.max_eq_left h4]; exact .inl h2
        · rintro q (hq | ⟨_, rfl⟩)
          · have := h3 q hq
            omega
          · omega
      · rw [if_neg hm, if_neg hm]
        refine ⟨.inr ⟨trivial, rfl⟩, .inr ⟨trivial, rfl⟩, ?_⟩
        rintro q (hq | ⟨_, rfl⟩)
        · exact absurd ((h.keys x).2 ⟨hr, q, hq⟩) hm
        · exact ⟨Int.le_refl _, Int.le_refl _⟩
    · rw [if_neg e, if_neg e]
      obtain ⟨h1, h2, h3⟩ := h.ends x (hx2.resolve_right e)
      refine ⟨.inl h1, .inl h2, ?_⟩
      rintro q (hq | ⟨hq, _⟩)
      · exact h3 q hq
      · exact absurd hq e
theorem InvT.reads (p : Int) : ∀ (rs : List Int), (∀ r ∈ rs, 0 ≤ r) → ∀ {s : StT} {S : Pts}, InvT s S → InvT (readT s rs p) (fun x q => S x q ∨ (x ∈ rs ∧ q = p))
  | [], _, s, S, h => h.congr fun x q _ => ⟨.inl, fun h => h.elim id fun ⟨h, _⟩ => by cases h⟩
  | r :: rs, hr, s, S, h => (InvT.reads p rs (fun y hy => hr y (by simp [hy])) (h.touch r p (hr r (by simp)))).congr fun x q _ => by
    constructor
    · rintro ((h1 | ⟨rfl, rfl⟩) | ⟨h1, rfl⟩)
      · exact .inl h1
      · exact .inr ⟨by simp, rfl⟩
      · exact .inr ⟨by simp [h1], rfl⟩
    · rintro (h1 | ⟨h1, rfl⟩)
      · exact .inl (.inl h1)
      · rcases List.mem_cons.1 h1 with rfl | h1
        · exact .inl (.inr ⟨rfl, rfl⟩)
        · exact .inr ⟨h1, rfl⟩
theorem InvT.ins {s : StT} {S : Pts} (h : InvT s S) (i : S87) (a : Int) : InvT (insT s i a) (fun x q => S x q ∨ ptI i a x q) := by
  have h1 := InvT.reads (2 * a) (readsL i) (fun r hr => readsL_pos hr) h
  unfold insT ptI
  split
  · rename_i h0
    exact (h1.touch i.f1 (2 * a + 1) h0).congr fun x q _ => or_assoc
  · rename_i h0
    refine h1.congr fun x q hx => or_congr Iff.rfl ⟨.inl, fun h => h.elim id fun ⟨h, _⟩ => by omega⟩
theorem InvT.blk (is : List (S87)) (pos : Int) (s : StT × List Int) {S : Pts} (h : InvT s.1 S) : ∀ m, InvT (blkT is m s pos).1 (fun x q => S x q ∨ ∃ j : Nat, j < m ∧ ptI (rd_T87 is (j : Int)) (pos + (j : Int)) x q)
  | 0 => h.congr fun x q _ => ⟨.inl, fun h => h.elim id fun ⟨j, h, _⟩ => absurd h (Nat.not_lt_zero _)⟩
  | m + 1 => by
    have ih := InvT.blk is pos s h m
    rw [blkT_succ]
    refine (ih.ins (rd_T87 is (m : Int)) (pos + (m : Int))).congr fun x q _ => ⟨?_, ?_⟩
    · rintro ((h1 | ⟨j, h1, h2⟩) | h1)
      · exact .inl h1
      · exact .inr ⟨j, by omega, h2⟩
      · exact .inr ⟨m, by omega, h1⟩
    · rintro (h1 | ⟨j, h1, h2⟩)
      · exact .inl (.inl h1)
      · by_cases e : j = m
        · subst e; exact .inr h2
        · exact .inl (.inr ⟨j, by omega, h2⟩)
theorem firstTH (bl : List (S85)) (b : Nat) : firstT bl b = firstH bl b := rfl
theorem InvT.pass (bl : List (S85)) : ∀ m, InvT (passT bl m).1 (fun x q => ∃ b : Nat, b < m ∧ ptR bl b x q)
  | 0 => ⟨fun x => ⟨fun h => (by cases h), fun ⟨_, q, b, h, _⟩ => absurd h (Nat.not_lt_zero _)⟩, List.nodup_nil, fun x h => by cases h⟩
  | m + 1 => by
    have ih := InvT.pass bl m
    rw [passT_succ]
    refine (InvT.blk (insAt bl m) (firstT bl m : Nat) _ ih (insAt bl m).length).congr fun x q _ => ⟨?_, ?_⟩
    · rintro (⟨b, h1, h2⟩ | h1)
      · exact ⟨b, by omega, h2⟩
      · exact ⟨m, by omega, h1⟩
    · rintro ⟨b, h1, h2⟩
      by_cases e : b = m
      · subst e; exact .inr h2
      · exact .inl ⟨b, by omega, h2⟩
def IsLo (ks : List Int) (g : Int → Int) (S : Pts) : Prop := ∀ x, x ∈ ks → S x (g x) ∧ ∀ q, S x q → g x ≤ q
def IsHi (ks : List Int) (g : Int → Int) (S : Pts) : Prop := ∀ x, x ∈ ks → S x (g x) ∧ ∀ q, S x q → q ≤ g x
theorem IsLo.congr {ks : List Int} {g : Int → Int} {S T : Pts} (h : IsLo ks g S) (e : ∀ x q, S x q ↔ T x q) : IsLo ks g T := fun x hx => ⟨(e _ _).1 (h x hx).1, fun q hq => (h x hx).2 q ((e _ _).2 hq)⟩
theorem IsHi.congr {ks : List Int} {g : Int → Int} {S T : Pts} (h : IsHi ks g S) (e : ∀ x q, S x q ↔ T x q) : IsHi ks g T := fun x hx => ⟨(e _ _).1 (h x hx).1, fun q hq => (h x hx).2 q ((e _ _).2 hq)⟩
theorem IsLo.minOn {ks : List Int} {g : Int → Int} {S : Pts} (h : IsLo ks g S) (kt : List Int) (v : Int) : IsLo ks (minOn kt g v) (fun x q => S x q ∨ (q = v ∧ x ∈ kt)) := fun x hx => by
  obtain ⟨h1, h2⟩ := h x hx
  unfold All.minOn
  dsimp only
  split
  · rename_i hk
    refine ⟨?_, ?_⟩
    · rcases Int.le_total (g x) v with h4 | h4
      · rw [Int.min_eq_left h4]; exact .inl h1
      · rw [Int.min_eq_right h4]; exact .inr ⟨rfl, hk⟩
    · rintro q (hq | ⟨rfl, _⟩)
      · have := h2 q hq; omega
      · omega
  · rename_i hk
    refine ⟨.inl h1, ?_⟩
    rintro q (hq | ⟨_, hq⟩)
    · exact h2 q hq
    · exact absurd hq hk
theorem IsHi.maxOn {ks : List Int} {g : Int → Int} {S : Pts} (h : IsHi ks g S) (kt : List Int) (v : Int) : IsHi ks (maxOn kt g v) (fun x q => S x q ∨ (q = v ∧ x ∈ kt)) := fun x hx => by
  obtain ⟨h1, h2⟩ := h x hx
  unfold All.maxOn
  dsimp only
  split
  · rename_i hk
    refine ⟨?_, ?_⟩
    · rcases Int.le_total (g x) v with h4 | h4
      · rw [Int.max_eq_right h4]; exact .inr ⟨rfl, hk⟩
      · rw [Int.max_eq_left h4]; exact .inl h1
    · rintro q (hq | ⟨rfl, _⟩)
      · have := h2 q hq; omega
      · omega
  · rename_i hk
    refine ⟨.inl h1, ?_⟩
    rintro q (hq | ⟨_, hq⟩)
    · exact h2 q hq
    · exact absurd hq hk
theorem IsHi.endB {ks : List Int} {g : Int → Int} {S : Pts} (h : IsHi ks g S) (kss : List (List Int)) (nb : Nat) (last : Int) (is : List (S87)) : ∀ m, IsHi ks (endB kss nb last is m g) (fun x q => S x q ∨ ∃ j : Nat, j < m ∧ (q = last ∧ jT nb (SK kss) (rd_T87 is (j : Int)) x))
  | 0 => h.congr fun x q => ⟨.inl, fun h => h.elim id fun ⟨j, h, _⟩ => absurd h (Nat.not_lt_zero _)⟩
  | m + 1 => by
    have ih := IsHi.endB h kss nb last is m
    rw [endB_succ]
    unfold endI
    by_cases c : jumpsB (rd_T87 is (m : Int)).f0 = true ∧ 0 ≤ (rd_T87 is (m : Int)).f5 ∧ (rd_T87 is (m : Int)).f5 < (nb : Int)
    · rw [if_pos c]
      refine (ih.maxOn _ last).congr fun x q => ⟨?_, ?_⟩
      · rintro ((h1 | ⟨j, h1, h2⟩) | ⟨h1, h2⟩)
        · exact .inl h1
        · exact .inr ⟨j, by omega, h2⟩
        · exact .inr ⟨m, by omega, h1, c.1, c.2.1, c.2.2, h2⟩
      · rintro (h1 | ⟨j, h1, h2, h3⟩)
        · exact .inl (.inl h1)
        · by_cases e : j = m
          · subst e; exact .inr ⟨h2, h3.2.2.2⟩
          · exact .inl (.inr ⟨j, by omega, h2, h3⟩)
    · rw [if_neg c]
      refine ih.congr fun x q => or_congr Iff.rfl ⟨fun ⟨j, h1, h2⟩ => ⟨j, by omega, h2⟩, fun ⟨j, h1, h2, h3⟩ => ⟨j, ?_, h2, h3⟩⟩
      by_cases e : j = m
      · subst e; exact absurd ⟨h3.1, h3.2.1, h3.2.2.1⟩ c
      · omega
theorem IsLo.pass {ks : List Int} {S : Pts} (bl : List (S85)) (kss : List (List Int)) (s : (Int → Int) × (Int → Int)) (h : IsLo ks s.1 S) : ∀ m, IsLo ks (passU bl kss m s).1 (fun x q => S x q ∨ ∃ b : Nat, b < m ∧ ptS bl (SK kss) b x q)
  | 0 => h.congr fun x q => ⟨.inl, fun h => h.elim id fun ⟨j, h, _⟩ => absurd h (Nat.not_lt_zero _)⟩
  | m + 1 => by
    have ih := IsLo.pass bl kss s h m
    rw [passU_succ]
    unfold stretchT
    split
    · rename_i hz
      refine ih.congr fun x q => or_congr Iff.rfl ⟨fun ⟨j, h1, h2⟩ => ⟨j, by omega, h2⟩, fun ⟨j, h1, h2⟩ => ⟨j, ?_, h2⟩⟩
      by_cases e : j = m
      · subst e; exact absurd hz h2.1
      · omega
    · rename_i hz
      refine (ih.minOn _ _).congr fun x q => ⟨?_, ?_⟩
      · rintro ((h1 | ⟨j, h1, h2⟩) | ⟨h1, h2⟩)
        · exact .inl h1
        · exact .inr ⟨j, by omega, h2⟩
        · exact .inr ⟨m, by omega, hz, h1, h2⟩
      · rintro (h1 | ⟨j, h1, h2⟩)
        · exact .inl (.inl h1)
        · by_cases e : j = m
          · subst e; exact .inr ⟨h2.2.1, h2.2.2⟩
          · exact .inl (.inr ⟨j, by omega, h2⟩)
theorem IsHi.pass {ks : List Int} {S : Pts} (bl : List (S85)) (kss : List (List Int)) (s : (Int → Int) × (Int → Int)) (h : IsHi ks s.2 S) : ∀ m, IsHi ks (passU bl kss m s).2 (fun x q => S x q ∨ ∃ b : Nat, b < m ∧ ptL bl (SK kss) b x q)
  | 0 => h.congr fun x q => ⟨.inl, fun h => h.elim id fun ⟨j, h, _⟩ => absurd h (Nat.not_lt_zero _)⟩
  | m + 1 => by
    have ih := IsHi.pass bl kss s h m
    rw [passU_succ]
    unfold stretchT
    split
    · rename_i hz
      refine ih.congr fun x q => or_congr Iff.rfl ⟨fun ⟨j, h1, h2⟩ => ⟨j, by omega, h2⟩, fun ⟨j, h1, h2⟩ => ⟨j, ?_, h2⟩⟩
      by_cases e : j = m
      · subst e
        obtain ⟨c, h3, _⟩ := h2
        omega
      · omega
    · rename_i hz
      refine (ih.endB kss bl.length _ (insAt bl m) (insAt bl m).length).congr fun x q => ⟨?_, ?_⟩
      · rintro ((h1 | ⟨j, h1, h2⟩) | h1)
        · exact .inl h1
        · exact .inr ⟨j, by omega, h2⟩
        · exact .inr ⟨m, by omega, h1⟩
      · rintro (h1 | ⟨j, h1, h2⟩)
        · exact .inl (.inl h1)
        · by_cases e : j = m
          · subst e; exact .inr h2
          · exact .inl (.inr ⟨j, by omega, h2⟩)
end Go.Proofs.Ythegbhfoleiegaa.All

/- Plain laws: both programs give the same ends. -/
namespace Go.Proofs.Ythegbhfoleiegaa.All
open Go.RowKit Go.Proofs.YthegbhfoleiegaaW.PrintWords Go.Proofs.YthegbhfoleiegaaW.PrintLast Go.Proofs.YthegbhfoleiegaaW.PrintMore
set_option linter.unusedVariables false
set_option linter.unusedSimpArgs false
theorem rdC0 (i : S87) (is : List (S87)) : rd_T87 (i :: is) ((0 : Nat) : Int) = i := rfl
theorem rdCS (i : S87) (is : List (S87)) (j : Nat) : rd_T87 (i :: is) ((j + 1 : Nat) : Int) = rd_T87 is (j : Int) := by
  unfold rd_T87
  rw [Int.toNat_natCast, Int.toNat_natCast]
  rfl
theorem liveGoes (nb : Nat) (T : Nat → Int → Prop) (x : Int) : ∀ is : List (S87), blockQ nb T is x → (∃ j : Nat, j < is.length ∧ x ∈ readsL (rd_T87 is (j : Int))) ∨ (∃ j : Nat, j < is.length ∧ jT nb T (rd_T87 is (j : Int)) x)
  | [], h => by cases h
  | i :: is, h => by
    have h' : stepQ nb T i (blockQ nb T is) x := h
    unfold stepQ at h'
    rcases h' with h1 | ⟨_, ⟨_, h1⟩ | h1⟩
    · exact .inl ⟨0, by simp, by rw [rdC0]; exact h1⟩
    · rcases liveGoes nb T x is h1 with ⟨j, h2, h3⟩ | ⟨j, h2, h3⟩
      · exact .inl ⟨j + 1, by simp; omega, by rw [rdCS]; exact h3⟩
      · exact .inr ⟨j + 1, by simp; omega, by rw [rdCS]; exact h3⟩
    · exact .inr ⟨0, by simp, by rw [rdC0]; exact h1⟩
theorem liveFrom (nb : Nat) (T : Nat → Int → Prop) (x : Int) : ∀ (is : List (S87)) (j : Nat), j < is.length → (∀ k : Nat, k < j → stopsB (rd_T87 is (k : Int)).f0 = false) → jT nb T (rd_T87 is (j : Int)) x → blockQ nb T is x ∨ ∃ k : Nat, k ≤ j ∧ (rd_T87 is (k : Int)).f1 = x
  | [], j, h, _, _ => by simp at h
  | i :: is, 0, _, _, h => by
    rw [rdC0] at h
    by_cases e : i.f1 = x
    · exact .inr ⟨0, Nat.le_refl _, by rw [rdC0]; exact e⟩
    · left
      show stepQ nb T i (blockQ nb T is) x
      unfold stepQ
      exact .inr ⟨fun h => e h.symm, .inr h⟩
  | i :: is, j + 1, hj, hs, h => by
    rw [rdCS] at h
    rcases liveFrom nb T x is j (by simp at hj; omega) (fun k hk => by have := hs (k + 1) (by omega); rw [rdCS] at this; exact this) h with h1 | ⟨k, h1, h2⟩
    · by_cases e : i.f1 = x
      · exact .inr ⟨0, by omega, by rw [rdC0]; exact e⟩
      · left
        show stepQ nb T i (blockQ nb T is) x
        unfold stepQ
        exact .inr ⟨fun h => e h.symm, .inl ⟨by have := hs 0 (by omega); rw [rdC0] at this; exact this, h1⟩⟩
    · exact .inr ⟨k + 1, by omega, by rw [rdCS]; exact h2⟩
/-- What stops stands at a block's end. -/
def wfI (bl : List (S85)) : Prop := ∀ b : Nat, b < bl.length → ∀ j : Nat, j < (insAt bl b).length → stopsB (rd_T87 (insAt bl b) (j : Int)).f0 = true → j + 1 = (insAt bl b).length
theorem startLe {bl : List (S85)} {kss : List (List Int)} (hX : Fix bl (SK kss)) {b : Nat} {x q : Int} (hb : b < bl.length) (h : ptS bl (SK kss) b x q) : ∃ q', q ≤ q' ∧ (ptR bl b x q' ∨ ptL bl (SK kss) b x q') := by
  obtain ⟨h1, rfl, h2⟩ := h
  rcases liveGoes _ _ x _ ((hX b hb x).1 h2) with ⟨j, h3, h4⟩ | ⟨j, h3, h4⟩
  · exact ⟨2 * ((firstH bl b : Nat) + (j : Int)), by omega, .inl ⟨j, h3, .inl ⟨h4, rfl⟩⟩⟩
  · exact ⟨2 * (((firstH bl b : Nat) : Int) + ((insAt bl b).length : Nat) - 1) + 1, by omega, .inr ⟨j, h3, rfl, h4⟩⟩
theorem lastGe {bl : List (S85)} {kss : List (List Int)} (hX : Fix bl (SK kss)) (hw : wfI bl) {b : Nat} {x q : Int} (hb : b < bl.length) (h : ptL bl (SK kss) b x q) : ∃ q', q' ≤ q ∧ (ptR bl b x q' ∨ ptS bl (SK kss) b x q') := by
  obtain ⟨j, h1, rfl, h2⟩ := h
  have hfl : ∀ k : Nat, k < j → stopsB (rd_T87 (insAt bl b) (k : Int)).f0 = false := fun k hk => by
    cases hs : stopsB (rd_T87 (insAt bl b) (k : Int)).f0 with
    | false => rfl
    | true => have := hw b hb k (by omega) hs; omega
  rcases liveFrom _ _ x _ j h1 hfl h2 with h3 | ⟨k, h3, h4⟩
  · exact ⟨2 * (firstH bl b : Nat), by omega, .inr ⟨by omega, rfl, (hX b hb x).2 h3⟩⟩
  · exact ⟨2 * ((firstH bl b : Nat) + (k : Int)) + 1, by omega, .inl ⟨k, by omega, .inr ⟨h4.symm, rfl⟩⟩⟩
theorem insAt_get {bl : List (S85)} {b : Nat} (hb : b < bl.length) : insAt bl b = (bl[b]).f0 := by unfold insAt rd_T85; rw [Int.toNat_natCast, List.getD_eq_getElem?_getD, List.getElem?_eq_getElem hb]; rfl
theorem namedP {bl : List (S85)} {x : Int} (h : x ∈ allR bl) : ∃ (q : Int) (b : Nat), b < bl.length ∧ ptR bl b x q := by
  unfold allR at h
  obtain ⟨B, hB, h⟩ := List.mem_flatMap.1 h
  obtain ⟨i, hi, h⟩ := List.mem_flatMap.1 h
  obtain ⟨b, hb, rfl⟩ := List.getElem_of_mem hB
  rw [← insAt_get hb] at hi
  obtain ⟨j, hj, rfl⟩ := List.getElem_of_mem hi
  exact ⟨_, b, hb, j, hj, .inl ⟨by rw [rdIns hj]; exact h, rfl⟩⟩
theorem ptRW {bl : List (S85)} {b : Nat} (hb : b < bl.length) {x q : Int} (h : ptR bl b x q) : x ∈ allW bl := by
  obtain ⟨j, hj, h⟩ := h
  have hm := allW_mem hb (List.getElem_mem hj)
  rw [rdIns hj] at h
  rcases h with ⟨h, _⟩ | ⟨h, _⟩
  · exact hm.2 x h
  · rw [h]; exact hm.1
theorem ends_same {bl : List (S85)} {n : Nat} {L : List (List Bool)} {kss : List (List Int)} (hB : BI bl n L) (hF : ∀ b, b < bl.length → FixN bl n L b) (hK : KI bl kss) (hX : Fix bl (SK kss)) (hx : ∀ x ∈ allR bl, x < 1048576 → x < (n : Int)) (hn9 : n ≤ 1048576) (hw : wfI bl) (hn : ∀ x ∈ allW bl, x < (n : Int)) :
    (∀ r : Nat, r < n → ((rd_T111 (hullPass bl L n bl.length).1 (r : Int)).f0 = true ↔ (r : Int) ∈ (passT bl bl.length).1.1)) ∧
    (∀ r : Nat, r < n → (r : Int) ∈ (passT bl bl.length).1.1 → (rd_T111 (hullPass bl L n bl.length).1 (r : Int)).f1 = (passU bl kss bl.length (passT bl bl.length).1.2).1 (r : Int) ∧ (rd_T111 (hullPass bl L n bl.length).1 (r : Int)).f2 = (passU bl kss bl.length (passT bl bl.length).1.2).2 (r : Int)) ∧
    (∀ x, x ∈ (passT bl bl.length).1.1 → 0 ≤ x ∧ x < (n : Int)) := by
  have hT := InvT.pass bl bl.length
  have hLo := IsLo.pass (ks := (passT bl bl.length).1.1) bl kss (passT bl bl.length).1.2 (fun x hx => ⟨(hT.ends x hx).1, fun q hq => ((hT.ends x hx).2.2 q hq).1⟩) bl.length
  have hHi := IsHi.pass (ks := (passT bl bl.length).1.1) bl kss (passT bl bl.length).1.2 (fun x hx => ⟨(hT.ends x hx).2.1, fun q hq => ((hT.ends x hx).2.2 q hq).2⟩) bl.length
  have hH := InvH.pass bl L n bl.length
  have hS : ∀ b, b < bl.length → ∀ x, (x ∈ kss.getD b [] ∧ x < 1048576) ↔ SB L b x := fun b hb x => live_same hB hF hK hX hx hn9 hb x
  have hrng : ∀ x, x ∈ (passT bl bl.length).1.1 → 0 ≤ x ∧ x < (n : Int) := fun x hx => by
    obtain ⟨h0, q, b, hb, h⟩ := (hT.keys x).1 hx
    exact ⟨h0, hn x (ptRW hb h)⟩
  -- the points of the two, of registers below n
  have hfwd : ∀ x q, ptsH bl (SB L) bl.length x q → ∃ b, b < bl.length ∧ (ptS bl (SK kss) b x q ∨ ptR bl b x q ∨ ptL bl (SK kss) b x q) := by
    rintro x q ⟨b, hb, ⟨h1, h2, h3⟩ | h | ⟨j, h1, h2, h3⟩⟩
    · exact ⟨b, hb, .inl ⟨h1, h2, ((hS b hb x).2 h3).1⟩⟩
    · exact ⟨b, hb, .inr (.inl h)⟩
    · exact ⟨b, hb, .inr (.inr ⟨j, h1, h2, h3.1, h3.2.1, h3.2.2.1, ((hS _ (by have := h3.2.1; have := h3.2.2.1; omega) x).2 h3.2.2.2).1⟩)⟩
  have hbwd : ∀ x q, x < (n : Int) → ∀ b, b < bl.length → (ptS bl (SK kss) b x q ∨ ptR bl b x q ∨ ptL bl (SK kss) b x q) → ptsH bl (SB L) bl.length x q := by
    rintro x q hxn b hb (⟨h1, h2, h3⟩ | h | ⟨j, h1, h2, h3⟩)
    · exact ⟨b, hb, .inl ⟨h1, h2, (hS b hb x).1 ⟨h3, by omega⟩⟩⟩
    · exact ⟨b, hb, .inr (.inl h)⟩
    · exact ⟨b, hb, .inr (.inr ⟨j, h1, h2, h3.1, h3.2.1, h3.2.2.1, (hS _ (by have := h3.2.1; have := h3.2.2.1; omega) x).1 ⟨h3.2.2.2, by omega⟩⟩)⟩
  have hthere : ∀ r : Nat, r < n → ((rd_T111 (hullPass bl L n bl.length).1 (r : Int)).f0 = true ↔ (r : Int) ∈ (passT bl bl.length).1.1) := fun r hr => by
    constructor
    · intro h
      obtain ⟨h1, _, _⟩ := hH.yes r hr h
      have hin : ∀ b : Nat, SK kss b (r : Int) → (r : Int) ∈ (passT bl bl.length).1.1 := fun b h => by
        obtain ⟨q, c, hc, hq⟩ := namedP (hK.sub b _ h)
        exact (hT.keys _).2 ⟨by omega, q, c, hc, hq⟩
      obtain ⟨b, hb, h2 | h2 | h2⟩ := hfwd _ _ h1
      · exact hin b h2.2.2
      · exact (hT.keys _).2 ⟨by omega, _, b, hb, h2⟩
      · obtain ⟨j, _, _, h3⟩ := h2
        exact hin _ h3.2.2.2
    · intro h
      obtain ⟨_, q, b, hb, hq⟩ := (hT.keys _).1 h
      cases hc : (rd_T111 (hullPass bl L n bl.length).1 (r : Int)).f0 with
      | true => rfl
      | false => exact absurd (hbwd _ q (by omega) b hb (.inr (.inl hq))) (hH.no r hr hc q)
  refine ⟨hthere, fun r hr hk => ?_, hrng⟩
  obtain ⟨y1, y2, y3⟩ := hH.yes r hr ((hthere r hr).2 hk)
  obtain ⟨l1, l2⟩ := hLo _ hk
  obtain ⟨g1, g2⟩ := hHi _ hk
  have hrn : (r : Int) < (n : Int) := by omega
  constructor
  · refine Int.le_antisymm ?_ ?_
    · rcases l1 with ⟨b, hb, h⟩ | ⟨b, hb, h⟩
      · exact (y3 _ (hbwd _ _ hrn b hb (.inr (.inl h)))).1
      · exact (y3 _ (hbwd _ _ hrn b hb (.inl h))).1
    · obtain ⟨b, hb, h | h | h⟩ := hfwd _ _ y1
      · exact l2 _ (.inr ⟨b, hb, h⟩)
      · exact l2 _ (.inl ⟨b, hb, h⟩)
      · obtain ⟨q', hq, h2 | h2⟩ := lastGe hX hw hb h
        · exact Int.le_trans (l2 _ (.inl ⟨b, hb, h2⟩)) hq
        · exact Int.le_trans (l2 _ (.inr ⟨b, hb, h2⟩)) hq
  · refine Int.le_antisymm ?_ ?_
    · obtain ⟨b, hb, h | h | h⟩ := hfwd _ _ y2
      · obtain ⟨q', hq, h2 | h2⟩ := startLe hX hb h
        · exact Int.le_trans hq (g2 _ (.inl ⟨b, hb, h2⟩))
        · exact Int.le_trans hq (g2 _ (.inr ⟨b, hb, h2⟩))
      · exact g2 _ (.inl ⟨b, hb, h⟩)
      · exact g2 _ (.inr ⟨b, hb, h⟩)
    · rcases g1 with ⟨b, hb, h⟩ | ⟨b, hb, h⟩
      · exact (y3 _ (hbwd _ _ hrn b hb (.inr (.inl h)))).2
      · exact (y3 _ (hbwd _ _ hrn b hb (.inr (.inr h)))).2
theorem calls_same (bl : List (S85)) (L : List (List Bool)) (n : Nat) : ∀ m, (passT bl m).2 = (hullPass bl L n m).2
  | 0 => rfl
  | m + 1 => by
    have ih := calls_same bl L n m
    have hb : ∀ (is : List (S87)) (nb : Nat) (f : Int) (s : StT × List Int) (t : List (S111) × List Int), s.2 = t.2 → ∀ j, (blkT is j s f).2 = (hullBlk nb L is f j t).2 := by
      intro is nb f s t h j
      induction j with
      | zero => exact h
      | succ j ihj =>
        rw [blkT_succ, hullBlk_succ]
        dsimp only
        rw [← ihj]
        rfl
    rw [passT_succ, hullPass_succ]
    split
    · rename_i hz
      rw [hz]
      exact ih
    · refine hb _ _ _ _ _ ?_ _
      exact ih
end Go.Proofs.Ythegbhfoleiegaa.All

/- Plain laws: both programs call the same code well-formed. -/
namespace Go.Proofs.Ythegbhfoleiegaa.All
open Go.RowKit Go.Proofs.YthegbhfoleiegaaW.PrintWords Go.Proofs.YthegbhfoleiegaaW.PrintLast Go.Proofs.YthegbhfoleiegaaW.PrintMore
set_option linter.unusedVariables false
set_option linter.unusedSimpArgs false
theorem jumpsB_iff (op : Int) : jumpsB op = true ↔ op = 23 ∨ op = 24 ∨ op = 25 := by
  unfold jumpsB impl_jumps.f
  by_cases h1 : op = 23
  · rw [if_pos h1]; simp [h1]
  · rw [if_neg h1]
    by_cases h2 : op = 24
    · rw [if_pos h2]; simp [h2]
    · rw [if_neg h2]
      simp [h1, h2]
theorem rd_dropL (ls : List Int) (j : Nat) (h : j < ls.length) : rd ls (j : Int) = ls[j] := rd_natL ls j h
theorem wfS_l2 (R : Int) (l1 : List Int) (bl : List (S85)) (y0 y1 : Int) (rs : List Int) (hl : rs.length ≤ 2000000) (r : Bool) (hno : (¬ ∀ x ∈ rs, x < R) → r = false) (hyes : (∀ x ∈ rs, x < R) → Ev (fun k => spec_l18Well.l1 k y0 (wrap64 (y1 + 1)) R l1 bl) r) : ∀ d j : Nat, j + d = rs.length → (∀ c (h : c < rs.length), c < j → rs[c] < R) → Ev (fun k => spec_l18Well.l2 k y0 y1 rs (j : Int) R l1 bl) r
  | 0, j, h, hp => by
    refine Ev.succ ?_
    simp only [spec_l18Well.l2]
    refine Ev.neg (by omega) (hyes fun x hx => ?_)
    obtain ⟨c, hc, rfl⟩ := List.getElem_of_mem hx
    exact hp c hc (by omega)
  | d + 1, j, h, hp => by
    have hj : j < rs.length := by omega
    refine Ev.succ ?_
    simp only [spec_l18Well.l2]
    rw [rd_dropL rs j hj, wrap64_nat (by omega)]
    refine Ev.pos (by omega) (Ev.pos (by omega) ?_)
    by_cases c : rs[j] ≥ R
    · refine Ev.pos c ?_
      rw [hno (fun hh => by have := hh _ (List.getElem_mem hj); omega)]
      exact Ev.now _
    · refine Ev.neg c (wfS_l2 R l1 bl y0 y1 rs hl r hno hyes d (j + 1) (by omega) (fun q hq hqj => ?_))
      by_cases e : q = j
      · subst e; omega
      · exact hp q hq (by omega)
theorem wfS_l1 (R : Int) (l1 : List Int) {bl : List (S85)} (hb : bVBlockS bl) {b : Nat} (hbl : b < bl.length) (r : Bool) (hno : ¬ okB R bl b → r = false) (hyes : okB R bl b → Ev (fun k => spec_l18Well.l0 k ((b + 1 : Nat) : Int) R l1 bl) r) : ∀ d j : Nat, j + d = (insAt bl b).length → (∀ c : Nat, c < j → okJ R bl.length (c + 1 = (insAt bl b).length) (rd_T87 (insAt bl b) (c : Int))) → Ev (fun k => spec_l18Well.l1 k (b : Int) (j : Int) R l1 bl) r
  | 0, j, h, hp => by
    have hb9 := hb.1
    refine Ev.succ ?_
    simp only [spec_l18Well.l1]
    rw [insAt_eq, wrap64_nat (by omega)]
    exact Ev.pos (by omega) (Ev.pos (by omega) (Ev.neg (by omega) (hyes fun c hc => hp c (by omega))))
  | d + 1, j, h, hp => by
    have hj : j < (insAt bl b).length := by omega
    obtain ⟨hi9, hi7⟩ := insAt_b hb hbl
    have h7 := hi7 _ (List.getElem_mem hj)
    have hb9 := hb.1
    have hrec : okJ R bl.length (j + 1 = (insAt bl b).length) (rd_T87 (insAt bl b) (j : Int)) → Ev (fun k => spec_l18Well.l1 k (b : Int) (wrap64 ((j : Int) + 1)) R l1 bl) r := fun hok => by
      rw [wrap64_nat (by omega)]
      refine wfS_l1 R l1 hb hbl r hno hyes d (j + 1) (by omega) (fun c hc => ?_)
      by_cases e : c = j
      · subst e; exact hok
      · exact hp c (by omega)
    have hbad : ¬ okJ R bl.length (j + 1 = (insAt bl b).length) (rd_T87 (insAt bl b) (j : Int)) → r = false := fun hn => hno fun hok => hn (hok j hj)
    rw [rdIns hj] at hrec hbad
    obtain ⟨i, hi⟩ : ∃ i, i = (insAt bl b)[j] := ⟨_, rfl⟩
    rw [← hi] at hrec hbad h7
    have hj4 : ¬ (stopsB i.f0 = true ∧ ¬ (j + 1 = (insAt bl b).length)) → ∀ fl : Bool, (fl = true ↔ jumpsB i.f0 = true ∧ (i.f5 < 0 ∨ (bl.length : Int) ≤ i.f5)) → Ev (fun k => spec_l18Well.j4 k (b : Int) (j : Int) fl R l1 bl i.f0 i.f1 i.f2 i.f3 i.f4 i.f5 i.f6 i.f7) r := fun hns fl hfl => by
      refine Ev.succ ?_
      simp only [spec_l18Well.j4]
      cases fl with
      | true =>
        have hb2 := hfl.1 rfl
        rw [hbad (fun hok => hok.1 (.inr hb2))]
        exact Ev.pos rfl (Ev.now _)
      | false =>
        have hb2 : ¬ (jumpsB i.f0 = true ∧ (i.f5 < 0 ∨ (bl.length : Int) ≤ i.f5)) := fun h => by have := hfl.2 h; cases this
        have hrl := readsL_len i
        refine Ev.neg (by simp) (Ev.bind (specReads_f i h7) (Ev.some_bind (Ev.pos (by simp; omega) ?_)))
        refine wfS_l2 R l1 bl (b : Int) (j : Int) (readsL i ++ [i.f1]) (by simp; omega) r (fun hn => hbad fun hok => hn fun x hx => ?_) (fun hall => hrec ⟨fun h => h.elim hns hb2, hall _ (by simp), fun x hx => hall x (by simp [hx])⟩) _ 0 (Nat.zero_add _) (fun c _ h => absurd h (Nat.not_lt_zero _))
        rcases List.mem_append.1 hx with hx | hx
        · exact hok.2.2 x hx
        · rw [List.mem_singleton] at hx
          rw [hx]
          exact hok.2.1
    have htg : ∀ fl : Bool, fl = decide ((if jumpsB i.f0 = true ∧ 0 ≤ i.f5 ∧ i.f5 < (bl.length : Int) then i.f5 else -1) < 0) → jumpsB i.f0 = true → (fl = true ↔ jumpsB i.f0 = true ∧ (i.f5 < 0 ∨ (bl.length : Int) ≤ i.f5)) := fun fl hfl hjm => by
      rw [hfl, decide_eq_true_eq]
      split
      · rename_i h; exact ⟨fun h2 => by omega, fun h2 => by omega⟩
      · rename_i h; exact ⟨fun _ => ⟨hjm, Classical.byContradiction fun h2 => h ⟨hjm, by omega, by omega⟩⟩, fun _ => by omega⟩
    have hj3 : ∀ fl : Bool, (fl = true ↔ stopsB i.f0 = true ∧ ¬ (j + 1 = (insAt bl b).length)) → Ev (fun k => spec_l18Well.j3 k (b : Int) (j : Int) fl R l1 bl i.f0 i.f1 i.f2 i.f3 i.f4 i.f5 i.f6 i.f7) r := fun fl hfl => by
      refine Ev.succ ?_
      simp only [spec_l18Well.j3]
      cases fl with
      | true =>
        have hb2 := hfl.1 rfl
        rw [hbad (fun hok => hok.1 (.inl hb2))]
        exact Ev.pos rfl (Ev.now _)
      | false =>
        have hb2 : ¬ (stopsB i.f0 = true ∧ ¬ (j + 1 = (insAt bl b).length)) := fun h => by have := hfl.2 h; cases this
        have hq := jumps_f R l1 bl i
        refine Ev.neg (by simp) ?_
        by_cases c1 : i.f0 = 23
        · exact Ev.pos c1 (Ev.eq_bind hq (hj4 hb2 _ (htg _ rfl ((jumpsB_iff _).2 (.inl c1)))))
        · refine Ev.neg c1 ?_
          by_cases c2 : i.f0 = 24
          · exact Ev.pos c2 (Ev.eq_bind hq (hj4 hb2 _ (htg _ rfl ((jumpsB_iff _).2 (.inr (.inl c2))))))
          · refine Ev.neg c2 ?_
            by_cases c3 : i.f0 = 25
            · exact Ev.pos c3 (Ev.eq_bind hq (hj4 hb2 _ (htg _ rfl ((jumpsB_iff _).2 (.inr (.inr c3))))))
            · exact Ev.neg c3 (hj4 hb2 false ⟨fun h => (by cases h), fun h => (by have := (jumpsB_iff _).1 h.1; omega)⟩)
    refine Ev.succ ?_
    simp only [spec_l18Well.l1]
    rw [insAt_eq, rdIns hj, ← hi, wrap64_id (x := ((insAt bl b).length : Int) - 1) (by omega) (by omega)]
    refine Ev.pos (by omega) (Ev.pos (by omega) (Ev.pos (by omega) (Ev.pos (by omega) (Ev.eq_bind (goes_f i) ?_))))
    cases hst : stopsB i.f0 with
    | true => exact Ev.neg (by simp) (hj3 _ (by rw [hst]; simp; omega))
    | false => exact Ev.pos (by simp) (hj3 false (by rw [hst]; simp))
theorem wfS_l0 (R : Int) (l1 : List Int) {bl : List (S85)} (hb : bVBlockS bl) (r : Bool) (hr : r = true ↔ ∀ b, b < bl.length → okB R bl b) : ∀ d b : Nat, b + d = bl.length → (∀ c, c < b → okB R bl c) → Ev (fun k => spec_l18Well.l0 k (b : Int) R l1 bl) r
  | 0, b, h, hp => by
    refine Ev.succ ?_
    simp only [spec_l18Well.l0]
    refine Ev.neg (by omega) ?_
    rw [hr.2 (fun c hc => hp c (by omega))]
    exact Ev.now _
  | d + 1, b, h, hp => by
    have hbl : b < bl.length := by omega
    refine Ev.succ ?_
    simp only [spec_l18Well.l0]
    refine Ev.pos (by omega) ?_
    refine wfS_l1 R l1 hb hbl r (fun hn => ?_) (fun hok => wfS_l0 R l1 hb r hr d (b + 1) (by omega) (fun c hc => ?_)) _ 0 (Nat.zero_add _) (fun c h => absurd h (Nat.not_lt_zero _))
    · cases r with
      | false => rfl
      | true => exact absurd (hr.1 rfl b hbl) hn
    · by_cases e : c = b
      · subst e; exact hok
      · exact hp c (by omega)
theorem specWell_f (R : Int) (l1 : List Int) {bl : List (S85)} (hb : bVBlockS bl) (r : Bool) (hr : r = true ↔ wellP R bl) : Ev (fun k => spec_l18Well.f k R l1 bl) r := by
  have hj0 : ∀ fl : Bool, (fl = true ↔ ¬ (0 ≤ R ∧ R ≤ 1048576)) → Ev (fun k => spec_l18Well.j0 k fl R l1 bl) r := fun fl hfl => by
    refine Ev.succ ?_
    simp only [spec_l18Well.j0]
    cases fl with
    | true =>
      have h1 := hfl.1 rfl
      have : r = false := by
        cases r with
        | false => rfl
        | true => have := hr.1 rfl; exact absurd ⟨this.1, this.2.1⟩ h1
      rw [this]
      exact Ev.pos rfl (Ev.now _)
    | false =>
      have h1 : 0 ≤ R ∧ R ≤ 1048576 := Classical.byContradiction fun h => by have := hfl.2 h; cases this
      refine Ev.neg (by simp) (wfS_l0 R l1 hb r (hr.trans ⟨fun h => h.2.2, fun h => ⟨h1.1, h1.2, h⟩⟩) _ 0 (Nat.zero_add _) (fun c h => absurd h (Nat.not_lt_zero _)))
  unfold spec_l18Well.f
  by_cases c : R < 0
  · exact Ev.pos c (hj0 true ⟨fun _ h => by omega, fun _ => rfl⟩)
  · exact Ev.neg c (hj0 _ (by simp; omega))
/-! the greatest register that is named, of those that are written too -/
theorem mostW_l2 (a0 : Int) (l1 : List Int) (bl : List (S85)) (b i : Int) (ls : List Int) (hl : ls.length ≤ 2000000) (n : Int) (h0 : 0 ≤ n) (h1 : n ≤ 1048576) : ∃ n' : Int, n ≤ n' ∧ n' ≤ 1048576 ∧ (∀ x ∈ ls, x < 1048576 → x < n') ∧ ∀ r, Ev (fun k => spec_l18Most.l1 k n' b (wrap64 (i + 1)) a0 l1 bl) r → Ev (fun k => spec_l18Most.l2 k n b i ls 0 a0 l1 bl) r := by
  obtain ⟨n', g1, g2, g3, g4⟩ := most_l2 a0 l1 bl b i ls hl _ 0 n (Nat.zero_add _) h0 h1
  exact ⟨n', g1, g2, fun x hx => g3 x (by rw [List.drop_zero]; exact hx), g4⟩
theorem mostW_l1 (a0 : Int) (l1 : List Int) {bl : List (S85)} (hb : bVBlockS bl) {b : Nat} (hbl : b < bl.length) : ∀ (d j : Nat) (n : Int), j + d = (insAt bl b).length → 0 ≤ n → n ≤ 1048576 →
    ∃ n' : Int, n ≤ n' ∧ n' ≤ 1048576 ∧ (∀ i ∈ (insAt bl b).drop j, ∀ x ∈ i.f1 :: readsL i, x < 1048576 → x < n') ∧ ∀ r, Ev (fun k => spec_l18Most.l0 k n' ((b + 1 : Nat) : Int) a0 l1 bl) r → Ev (fun k => spec_l18Most.l1 k n (b : Int) (j : Int) a0 l1 bl) r
  | 0, j, n, h, h0, h1 => by
    have hi9 := (insAt_b hb hbl).1
    have hb9 := hb.1
    refine ⟨n, Int.le_refl _, h1, fun x hx => ?_, fun r hr => ?_⟩
    · rw [List.drop_eq_nil_of_le (by omega)] at hx; cases hx
    · refine Ev.succ ?_
      simp only [spec_l18Most.l1]
      rw [insAt_eq, wrap64_nat (by omega)]
      exact Ev.pos (by omega) (Ev.pos (by omega) (Ev.neg (by omega) hr))
  | d + 1, j, n, h, h0, h1 => by
    have hj : j < (insAt bl b).length := by omega
    obtain ⟨hi9, hi7⟩ := insAt_b hb hbl
    have h7 := hi7 _ (List.getElem_mem hj)
    have hrl := readsL_len (insAt bl b)[j]
    obtain ⟨m, q1, q2, q3, q4⟩ := mostW_l2 a0 l1 bl (b : Int) (j : Int) (readsL (insAt bl b)[j] ++ [((insAt bl b)[j]).f1]) (by simp; omega) n h0 h1
    obtain ⟨n', g1, g2, g3, g4⟩ := mostW_l1 a0 l1 hb hbl d (j + 1) m (by omega) (by omega) q2
    refine ⟨n', by omega, g2, fun i hm x hx h9 => ?_, fun r hr => ?_⟩
    · rw [List.drop_eq_getElem_cons hj] at hm
      rcases List.mem_cons.1 hm with rfl | hm
      · have := q3 x (by rw [List.mem_append, List.mem_singleton]; rcases List.mem_cons.1 hx with h | h; exact .inr h; exact .inl h) h9
        omega
      · exact g3 i hm x hx h9
    · refine Ev.succ ?_
      simp only [spec_l18Most.l1]
      rw [insAt_eq, rdIns hj]
      refine Ev.pos (by omega) (Ev.pos (by omega) (Ev.pos (by omega) (Ev.pos (by omega) (Ev.bind (specReads_f _ h7) (Ev.some_bind (Ev.pos (by simp; omega) (q4 r ?_)))))))
      have := g4 r hr
      rw [wrap64_nat (by omega)]
      exact this
theorem mostW_l0 (a0 : Int) (l1 : List Int) {bl : List (S85)} (hb : bVBlockS bl) : ∀ (d b : Nat) (n : Int), b + d = bl.length → 0 ≤ n → n ≤ 1048576 →
    ∃ n' : Int, n ≤ n' ∧ n' ≤ 1048576 ∧ (∀ c, b ≤ c → c < bl.length → ∀ i ∈ insAt bl c, ∀ x ∈ i.f1 :: readsL i, x < 1048576 → x < n') ∧ Ev (fun k => spec_l18Most.l0 k n (b : Int) a0 l1 bl) n'
  | 0, b, n, h, h0, h1 => by
    refine ⟨n, Int.le_refl _, h1, fun c h2 h3 => by omega, Ev.succ ?_⟩
    simp only [spec_l18Most.l0]
    exact Ev.neg (by omega) (Ev.now _)
  | d + 1, b, n, h, h0, h1 => by
    have hbl : b < bl.length := by omega
    obtain ⟨m, q1, q2, q3, q4⟩ := mostW_l1 a0 l1 hb hbl _ 0 n (Nat.zero_add _) h0 h1
    obtain ⟨n', g1, g2, g3, g4⟩ := mostW_l0 a0 l1 hb d (b + 1) m (by omega) (by omega) q2
    refine ⟨n', by omega, g2, fun c h2 h3 i hi x hx h9 => ?_, Ev.succ ?_⟩
    · by_cases e : c = b
      · subst e
        have := q3 i (by rw [List.drop_zero]; exact hi) x hx h9
        omega
      · exact g3 c (by omega) h3 i hi x hx h9
    · simp only [spec_l18Most.l0]
      exact Ev.pos (by omega) (q4 n' g4)
theorem mostW_f (a0 : Int) (l1 : List Int) {bl : List (S85)} (hb : bVBlockS bl) : ∃ n : Nat, n ≤ 1048576 ∧ (∀ x ∈ allW bl, x < 1048576 → x < (n : Int)) ∧ Ev (fun k => spec_l18Most.f k a0 l1 bl) (n : Int) := by
  obtain ⟨n', g1, g2, g3, g4⟩ := mostW_l0 a0 l1 hb _ 0 0 (Nat.zero_add _) (Int.le_refl _) (by omega)
  obtain ⟨n, rfl⟩ := Int.eq_ofNat_of_zero_le g1
  refine ⟨n, by omega, fun x hx h9 => ?_, g4⟩
  unfold allW at hx
  obtain ⟨b, hb1, hb2⟩ := List.mem_flatMap.1 hx
  obtain ⟨i, hi1, hi2⟩ := List.mem_flatMap.1 hb2
  obtain ⟨c, hc, rfl⟩ := List.getElem_of_mem hb1
  exact g3 c (Nat.zero_le _) hc i (by rw [insAt_get hc]; exact hi1) x hi2 h9
theorem specLiveW_f (a0 : Int) (l1 : List Int) {bl : List (S85)} (hbv : bVBlockS bl) : ∃ (n : Nat) (L : List (List Bool)), n ≤ 1048576 ∧ (∀ x ∈ allW bl, x < 1048576 → x < (n : Int)) ∧ BI bl n L ∧ (∀ b, b < bl.length → FixN bl n L b) ∧ Ev (fun k => spec_l18Most.f k a0 l1 bl) (n : Int) ∧ Ev (fun k => spec_l18Live.f k a0 l1 bl) L := by
  obtain ⟨n, hn9, hx, hm⟩ := mostW_f a0 l1 hbv
  obtain ⟨L, h1, h2, h3⟩ := live_l1 a0 l1 hbv hn9 _ _ (BI.start bl n) (Nat.le_refl _)
  refine ⟨n, L, hn9, hx, h1, h2, hm, ?_⟩
  unfold spec_l18Live.f
  exact Ev.bind hm (live_l0 a0 l1 hbv hn9 L h3 _ 0 (Nat.zero_add _))
theorem wellP_wf {R : Int} {bl : List (S85)} (h : wellP R bl) : wfI bl := fun b hb j hj hs => Classical.byContradiction fun hn => (h.2.2 b hb j hj).1 (.inl ⟨hs, hn⟩)
theorem wellP_reg {R : Int} {bl : List (S85)} (h : wellP R bl) : ∀ x ∈ allW bl, x < 1048576 := fun x hx => by
  unfold allW at hx
  obtain ⟨B, hb1, hb2⟩ := List.mem_flatMap.1 hx
  obtain ⟨i, hi1, hi2⟩ := List.mem_flatMap.1 hb2
  obtain ⟨b, hb, rfl⟩ := List.getElem_of_mem hb1
  rw [← insAt_get hb] at hi1
  obtain ⟨j, hj, rfl⟩ := List.getElem_of_mem hi1
  have h1 := h.2.2 b hb j hj
  rw [rdIns hj] at h1
  have h2 := h.2.1
  rcases List.mem_cons.1 hi2 with h3 | h3
  · have := h1.2.1; omega
  · have := h1.2.2 x h3; omega
end Go.Proofs.Ythegbhfoleiegaa.All

/- Plain laws of selected code: sizes, and what liveOf asks of it. -/
namespace Go.Proofs.Ythegbhfoleiegaa.All
open Go.RowKit Go.Proofs.YthegbhfoleiegaaW.PrintWords Go.Proofs.YthegbhfoleiegaaW.PrintLast Go.Proofs.YthegbhfoleiegaaW.PrintMore
set_option linter.unusedVariables false
set_option linter.unusedSimpArgs false
theorem sum_linV {α : Type} {f g : α → Nat} {a b : Nat} (h : ∀ x, f x ≤ a + b * g x) : ∀ xs : List α, (xs.map f).sum ≤ a * xs.length + b * (xs.map g).sum
  | [] => by simp
  | x :: xs => by
    have h1 := h x
    have h2 := sum_linV h xs
    simp only [List.map_cons, List.sum_cons, List.length_cons]
    rw [Nat.mul_add, Nat.mul_add, Nat.mul_one]
    omega
theorem lVBlockS_ok {l : List S165} (h : l.length ≤ 9223372036854775807 ∧ ∀ y ∈ l, ok165 y) : lVBlockS l := by
  refine ⟨h.1, fun b hb => ?_⟩
  have h1 := h.2 b hb
  unfold ok165 at h1
  refine ⟨h1.1, fun x hx => ?_⟩
  have h2 := h1.2 x hx
  unfold ok224 at h2
  obtain ⟨_, _, _, _, _, _, h6, h7⟩ := h2
  exact ⟨h6, h7.1⟩
theorem lenR (x : S224) : (readsL (iVIns x)).length ≤ 3 + 1 * sVIns x := by
  have := readsL_len (iVIns x)
  have e : (iVIns x).f7.length = x.f7.length := rfl
  unfold sVIns
  omega
theorem lenRS (x : S165) : ((iVBlock x).f0.flatMap readsL).length ≤ 0 + 3 * sVBlock x := by
  have e : ((iVBlock x).f0.flatMap readsL).length = (x.f0.map (fun i => (readsL (iVIns i)).length)).sum := by
    show ((x.f0.map iVIns).flatMap readsL).length = _
    rw [List.length_flatMap, List.map_map]
    rfl
  have := sum_linV lenR x.f0
  rw [e]
  unfold sVBlock sVInsS
  omega
theorem lenAllR (l : List S165) : (allR (l.map iVBlock)).length ≤ 3 * sVBlockS l := by
  have e : (allR (l.map iVBlock)).length = (l.map (fun b => ((iVBlock b).f0.flatMap readsL).length)).sum := by
    unfold allR
    rw [List.length_flatMap, List.map_map]
    rfl
  have := sum_linV lenRS l
  rw [e]
  unfold sVBlockS
  omega
theorem cntVIns (x : S224) : cnt_VIns (iVIns x) ≤ 7 + 1 * sVIns x := by
  have e : cntL_int64 (iVIns x).f7 = x.f7.length := rfl
  unfold cnt_VIns sVIns
  omega
theorem cntVBlock (x : S165) : cnt_VBlock (iVBlock x) ≤ 0 + 7 * sVBlock x := by
  have e : cnt_VBlock (iVBlock x) = (x.f0.map (fun s => cnt_VIns (iVIns s))).sum := by
    show cntL_VIns (x.f0.map iVIns) = _
    unfold cntL_VIns
    rw [List.map_map]
    rfl
  have := sum_linV cntVIns x.f0
  rw [e]
  unfold sVBlock sVInsS
  omega
theorem cntVBlockS (l : List S165) : cntL_VBlock (l.map iVBlock) ≤ 7 * sVBlockS l := by
  have e : cntL_VBlock (l.map iVBlock) = (l.map (fun s => cnt_VBlock (iVBlock s))).sum := by
    unfold cntL_VBlock
    rw [List.map_map]
    rfl
  have := sum_linV cntVBlock l
  rw [e]
  unfold sVBlockS
  omega
theorem ev_all {α β : Type} (f : Nat → α → Option β) (r : α → β) : ∀ l : List α, (∀ x ∈ l, Ev (fun k => f k x) (r x)) → ∃ K, ∀ k, K ≤ k → ∀ x ∈ l, f k x = some (r x)
  | [], _ => ⟨0, fun k _ x hx => by cases hx⟩
  | a :: l, h => by
    obtain ⟨K1, h1⟩ := h a (by simp)
    obtain ⟨K2, h2⟩ := ev_all f r l (fun x hx => h x (by simp [hx]))
    exact ⟨K1 + K2, fun k hk x hx => by
      rcases List.mem_cons.1 hx with rfl | hx
      · exact h1 k (by omega)
      · exact h2 k (by omega) x hx⟩
theorem okV_ev {l : List S165} (h : l.length ≤ 9223372036854775807 ∧ ∀ y ∈ l, ok165 y) (hs : sVBlockS l ≤ 1048576) : ∃ K, ∀ k, K ≤ k → okV k (l.map iVBlock) := by
  have hb := bVBlockS_of l hs
  obtain ⟨K, hK⟩ := ev_all (fun k (i : S87) => impl_Reads.f k i.f0 i.f1 i.f2 i.f3 i.f4 i.f5 i.f6 i.f7) readsL ((l.map iVBlock).flatMap fun b => b.f0) (fun i hi => by
    obtain ⟨b, hb1, hb2⟩ := List.mem_flatMap.1 hi
    exact implReads_f i ((hb.2 b hb1).2 i hb2))
  refine ⟨K, fun k hk => ⟨by have := hb.1; omega, fun b hb1 => ⟨by have := (hb.2 b hb1).1; omega, fun i hi => ⟨hK k hk i (List.mem_flatMap.2 ⟨b, hb1, hi⟩), fun x hx => ?_⟩⟩, by have := lenAllR l; omega⟩⟩
  obtain ⟨b0, hb0, rfl⟩ := List.mem_map.1 hb1
  obtain ⟨i0, hi0, rfl⟩ := List.mem_map.1 (show i ∈ b0.f0.map iVIns from hi)
  have h1 := h.2 b0 hb0
  unfold ok165 at h1
  have h2 := h1.2 i0 hi0
  unfold ok224 at h2
  obtain ⟨_, _, k2, k3, k4, _, _, k7⟩ := h2
  unfold readsL at hx
  obtain ⟨hx1, hx2⟩ := List.mem_filter.1 hx
  rw [List.mem_append] at hx1
  rcases hx1 with hx1 | hx1
  · have e : iVIns i0 = ⟨i0.f0, i0.f1, i0.f2, i0.f3, i0.f4, i0.f5, i0.f6, i0.f7⟩ := rfl
    rw [e] at hx1
    simp only [List.mem_cons, List.not_mem_nil, or_false] at hx1
    rcases hx1 with rfl | rfl | hx1
    · exact k2
    · exact k3
    · split at hx1
      · subst hx1; simp at hx2
      · subst hx1; exact k4
  · exact k7.2 x hx1
end Go.Proofs.Ythegbhfoleiegaa.All

/- Plain laws: both programs' Intervals answer alike. -/
namespace Go.Proofs.Ythegbhfoleiegaa.All
open Go.RowKit Go.Proofs.YthegbhfoleiegaaW.PrintWords Go.Proofs.YthegbhfoleiegaaW.PrintLast Go.Proofs.YthegbhfoleiegaaW.PrintMore
set_option linter.unusedVariables false
set_option linter.unusedSimpArgs false
theorem sorted_eqI {ys zs : List Int} (hz : zs.Pairwise (· < ·)) (hp : ys.Perm zs) : sortI ys = zs := by
  unfold sortI
  refine List.Perm.eq_of_pairwise (le := fun x y => x ≤ y) (fun a b _ _ h1 h2 => Int.le_antisymm h1 h2) ?_ (hz.imp (fun h => Int.le_of_lt h)) ((List.mergeSort_perm _ _).trans hp)
  exact (List.pairwise_mergeSort (le := fun x y : Int => decide (x ≤ y)) (fun a b c h1 h2 => by simp at h1 h2 ⊢; omega) (fun a b => by simp; omega) ys).imp (fun h => by simpa using h)
theorem lenW (x : S224) : ((iVIns x).f1 :: readsL (iVIns x)).length ≤ 4 + 1 * sVIns x := by
  have := lenR x
  rw [List.length_cons]
  omega
theorem lenWS (x : S165) : ((iVBlock x).f0.flatMap fun i => i.f1 :: readsL i).length ≤ 0 + 4 * sVBlock x := by
  have e : ((iVBlock x).f0.flatMap fun i => i.f1 :: readsL i).length = (x.f0.map (fun i => ((iVIns i).f1 :: readsL (iVIns i)).length)).sum := by
    show ((x.f0.map iVIns).flatMap fun i => i.f1 :: readsL i).length = _
    rw [List.length_flatMap, List.map_map]
    rfl
  have := sum_linV lenW x.f0
  rw [e]
  unfold sVBlock sVInsS
  omega
theorem lenAllW (l : List S165) : (allW (l.map iVBlock)).length ≤ 4 * sVBlockS l := by
  have e : (allW (l.map iVBlock)).length = (l.map (fun b => ((iVBlock b).f0.flatMap fun i => i.f1 :: readsL i).length)).sum := by
    unfold allW
    rw [List.length_flatMap, List.map_map]
    rfl
  have := sum_linV lenWS l
  rw [e]
  unfold sVBlockS
  omega
theorem flat_lenW : ∀ is : List (S87), is.length ≤ (is.flatMap fun i => i.f1 :: readsL i).length
  | [] => Nat.zero_le _
  | i :: is => by
    have := flat_lenW is
    rw [List.flatMap_cons, List.length_append, List.length_cons, List.length_cons]
    omega
theorem firstT_allW (bl : List (S85)) : ∀ m, m ≤ bl.length → firstT bl m ≤ (allW (bl.take m)).length
  | 0, _ => Nat.zero_le _
  | m + 1, h => by
    have ih := firstT_allW bl m (by omega)
    have h2 := flat_lenW (bl[m]'(by omega)).f0
    rw [firstT_succ, insAt_get (by omega), List.take_succ_eq_append_getElem (by omega)]
    unfold allW at ih ⊢
    rw [List.flatMap_append, List.length_append]
    have e : ([bl[m]'(by omega)].flatMap fun b : S85 => b.f0.flatMap fun i => i.f1 :: readsL i) = ((bl[m]'(by omega)).f0.flatMap fun i => i.f1 :: readsL i) := by simp
    rw [e]
    omega
theorem okW_ev {l : List S165} (h : l.length ≤ 9223372036854775807 ∧ ∀ y ∈ l, ok165 y) (hs : sVBlockS l ≤ 1048576) : ∃ K, ∀ k, K ≤ k → okW k (l.map iVBlock) := by
  obtain ⟨K, hok⟩ := okV_ev h hs
  have hw := lenAllW l
  have hf := firstT_allW (l.map iVBlock) _ (Nat.le_refl _)
  rw [List.take_length] at hf
  refine ⟨K, fun k hk => ⟨hok k hk, by omega, by omega, fun x hx => ?_⟩⟩
  unfold allW at hx
  obtain ⟨b, hb1, hx⟩ := List.mem_flatMap.1 hx
  obtain ⟨i, hi, hx⟩ := List.mem_flatMap.1 hx
  rcases List.mem_cons.1 hx with rfl | hx
  · obtain ⟨b0, hb0, rfl⟩ := List.mem_map.1 hb1
    obtain ⟨i0, hi0, rfl⟩ := List.mem_map.1 (show i ∈ b0.f0.map iVIns from hi)
    have h1 := h.2 b0 hb0
    unfold ok165 at h1
    have h2 := h1.2 i0 hi0
    unfold ok224 at h2
    exact h2.2.1
  · exact (((hok k hk).2.1 b hb1).2 i hi).2 x hx
theorem okH_ev {l : List S165} (hs : sVBlockS l ≤ 1048576) {n : Nat} {L : List (List Bool)} (hB : BI (l.map iVBlock) n L) (hn9 : n ≤ 1048576) : ∃ K, ∀ k, K ≤ k → okH k (l.map iVBlock) L := by
  have hb := bVBlockS_of l hs
  have hw := lenAllW l
  have hf := firstT_allW (l.map iVBlock) _ (Nat.le_refl _)
  rw [List.take_length, firstTH] at hf
  obtain ⟨K, hK⟩ := ev_all (fun k (i : S87) => spec_Reads.f k i.f0 i.f1 i.f2 i.f3 i.f4 i.f5 i.f6 i.f7) readsL ((l.map iVBlock).flatMap fun b => b.f0) (fun i hi => by
    obtain ⟨b, hb1, hb2⟩ := List.mem_flatMap.1 hi
    exact specReads_f i ((hb.2 b hb1).2 i hb2))
  have hb9 := hb.1
  refine ⟨K, fun k hk => ⟨hB.hl, fun c hc => by rw [hB.hr c hc]; omega, by omega, by omega, fun b hb1 i hi => ⟨hK k hk i (List.mem_flatMap.2 ⟨_, List.getElem_mem hb1, by rw [← insAt_get hb1]; exact hi⟩), ?_⟩⟩⟩
  have h1 := readsL_len i
  have h2 := (insAt_b hb hb1).2 i hi
  omega
theorem intervals_f (a0 : Int) (l1 : List Int) {l : List S165} (h : l.length ≤ 9223372036854775807 ∧ ∀ y ∈ l, ok165 y) (hs : sVBlockS l ≤ 1048576) :
    ∃ r : List (S113), r.length ≤ 1048576 ∧ Ev (fun k => spec_Intervals.f k a0 l1 (l.map iVBlock)) r ∧ Ev (fun k => impl_Intervals.f k a0 l1 (l.map iVBlock)) r := by
  have hb := bVBlockS_of l hs
  by_cases c : wellP a0 (l.map iVBlock)
  · obtain ⟨n, L, hn9, hx, hB, hF, ⟨K3, hM⟩, ⟨K4, hL⟩⟩ := specLiveW_f a0 l1 hb
    obtain ⟨K, kss, hk, hK, hX⟩ := loopK_lfp (l.map iVBlock)
    obtain ⟨K1, hokw⟩ := okW_ev h hs
    obtain ⟨K2, hokh⟩ := okH_ev hs hB hn9
    obtain ⟨K5, hS⟩ := specWell_f a0 l1 hb true (by simp [c])
    obtain ⟨K6, hI⟩ := okV_ev h hs
    have hreg := wellP_reg c
    obtain ⟨e1, e2, e3⟩ := ends_same hB hF hK hX (fun x hx2 h9 => hx x (allR_W hx2) h9) hn9 (wellP_wf c) (fun x hx2 => hx x hx2 (hreg x hx2))
    have ec := calls_same (l.map iVBlock) L n (l.map iVBlock).length
    have hT := InvT.pass (l.map iVBlock) (l.map iVBlock).length
    generalize (l.map iVBlock) = bl at *
    have hz : sortI (passT bl bl.length).1.1 = ((List.range n).filter fun (r : Nat) => (rd_T111 (hullPass bl L n bl.length).1 (r : Int)).f0).map (fun (r : Nat) => (r : Int)) := by
      have hlt : (((List.range n).filter fun (r : Nat) => (rd_T111 (hullPass bl L n bl.length).1 (r : Int)).f0).map (fun (r : Nat) => (r : Int))).Pairwise (· < ·) := by
        rw [List.pairwise_map]
        exact (List.pairwise_lt_range.filter _).imp (fun h => by omega)
      refine sorted_eqI hlt ((List.perm_ext_iff_of_nodup hT.nd (hlt.imp (fun h => Int.ne_of_lt h))).2 (fun x => ?_))
      rw [List.mem_map]
      constructor
      · intro hxk
        obtain ⟨h0, h1⟩ := e3 x hxk
        obtain ⟨r, rfl⟩ := Int.eq_ofNat_of_zero_le h0
        exact ⟨r, List.mem_filter.2 ⟨List.mem_range.2 (by omega), (e1 r (by omega)).2 hxk⟩, rfl⟩
      · rintro ⟨r, hr, rfl⟩
        obtain ⟨h1, h2⟩ := List.mem_filter.1 hr
        exact (e1 r (List.mem_range.1 h1)).1 h2
    have heq : ivAll bl kss = hullL (hullPass bl L n bl.length).1 (hullPass bl L n bl.length).2 n := by
      unfold ivAll hullL
      rw [hz, List.map_map]
      refine List.map_congr_left (fun r hr => ?_)
      obtain ⟨h1, h2⟩ := List.mem_filter.1 hr
      have hrn := List.mem_range.1 h1
      obtain ⟨g1, g2⟩ := e2 r hrn ((e1 r hrn).1 h2)
      show ivOf _ _ (r : Int) = hullIv _ _ r
      unfold ivOf hullIv
      rw [g1, g2, ec]
    refine ⟨hullL (hullPass bl L n bl.length).1 (hullPass bl L n bl.length).2 n, Nat.le_trans (hullL_len _ _ _) hn9, ⟨K2 + K3 + K4 + K5, fun k hk2 => ?_⟩, ⟨K + K1 + K6, fun k hk2 => ?_⟩⟩
    · show spec_Intervals.f k a0 l1 bl = _
      unfold spec_Intervals.f
      rw [show spec_l18Well.f k a0 l1 bl = some true from hS k (by omega), Option.bind_some, if_neg (by simp), show spec_l18Most.f k a0 l1 bl = some (n : Int) from hM k (by omega), Option.bind_some, show spec_l18Live.f k a0 l1 bl = some L from hL k (by omega), Option.bind_some, if_pos ⟨⟨by omega, by omega⟩, hokh k (by omega)⟩, Int.toNat_natCast]
    · show impl_Intervals.f k a0 l1 bl = _
      unfold impl_Intervals.f
      rw [show impl_wellFormed.f k a0 l1 bl = some true by unfold impl_wellFormed.f; rw [if_pos (hI k (by omega)), wellB_yes c], Option.bind_some, if_neg (by simp), if_pos (hokw k (by omega)), hk k (by omega), Option.bind_some, heq]
  · obtain ⟨K5, hS⟩ := specWell_f a0 l1 hb false (by simp [c])
    obtain ⟨K6, hI⟩ := okV_ev h hs
    refine ⟨[], Nat.zero_le _, ⟨K5, fun k hk2 => ?_⟩, ⟨K6, fun k hk2 => ?_⟩⟩
    · show spec_Intervals.f k a0 l1 _ = _
      unfold spec_Intervals.f
      rw [show spec_l18Well.f k a0 l1 (l.map iVBlock) = some false from hS k (by omega)]
      rfl
    · show impl_Intervals.f k a0 l1 _ = _
      unfold impl_Intervals.f
      rw [show impl_wellFormed.f k a0 l1 (l.map iVBlock) = some false by unfold impl_wellFormed.f; rw [if_pos (hI k (by omega)), wellB_no c]]
      rfl
end Go.Proofs.Ythegbhfoleiegaa.All

/- Plain laws: a row of intervals compared with itself, marked, and found marked. -/
namespace Go.Proofs.Ythegbhfoleiegaa.All
open Go.RowKit Go.Proofs.YthegbhfoleiegaaW.PrintWords Go.Proofs.YthegbhfoleiegaaW.PrintLast Go.Proofs.YthegbhfoleiegaaW.PrintMore
set_option linter.unusedVariables false
set_option linter.unusedSimpArgs false
def mkIv (j : Nat) : S113 := ⟨1 + 4 * (j : Int), 1 + 4 * (j : Int) + 1, 1 + 4 * (j : Int) + 1 + 1, Int.tmod (1 + 4 * (j : Int) + 1 + 1 + 1) 3 == 0⟩
def marksIv (n : Nat) : List (S113) := (List.range n).map mkIv
theorem marksIv_length (n : Nat) : (marksIv n).length = n := by simp [marksIv]
theorem marksIv_at (n i : Nat) (h : i < n) : rd_T113 (marksIv n) (i : Int) = mkIv i := by
  unfold rd_T113 marksIv
  rw [Int.toNat_natCast, List.getD_eq_getElem?_getD, List.getElem?_map, List.getElem?_range h]
  rfl
theorem rdSetIv (l : List (S113)) (i : Nat) (x : S113) (h : i < l.length) : rd_T113 (l.set i x) (i : Int) = x := by
  unfold rd_T113
  rw [Int.toNat_natCast, List.getD_eq_getElem?_getD, List.getElem?_set_self h]
  rfl
theorem markIntervalS_f (l : List (S113)) (hl : l.length ≤ 1000000000) : Ev (fun k => laws_markIntervalS.f k l 1) ((1 : Int) + 4 * (l.length : Nat), marksIv l.length) := by
  unfold laws_markIntervalS.f marksIv
  have key := mk_gen mkIv l (fun out => ((1 : Int) + 4 * (l.length : Nat), out)) (fun k out i => laws_markIntervalS.l0 k out (1 + 4 * i) i) (fun i out r hi ho h => ?_) (fun out ho => ?_)
  · simpa using key
  · refine Ev.succ ?_
    simp only [laws_markIntervalS.l0]
    refine Ev.pos (by omega) (Ev.pos (by omega) (Ev.some_bind (Ev.some_bind (Ev.some_bind ?_))))
    have e1 : wrap64 (1 + 4 * (i : Int) + 1) = 1 + 4 * (i : Int) + 1 := wrap64_id (by omega) (by omega)
    have e2 : wrap64 (1 + 4 * (i : Int) + 1 + 1) = 1 + 4 * (i : Int) + 1 + 1 := wrap64_id (by omega) (by omega)
    have e3 : wrap64 (1 + 4 * (i : Int) + 1 + 1 + 1) = 1 + 4 * (i : Int) + 1 + 1 + 1 := wrap64_id (by omega) (by omega)
    have e4 : wrap64 (1 + 4 * (i : Int) + 1 + 1 + 1 + 1) = 1 + 4 * ((i + 1 : Nat) : Int) := by rw [wrap64_id (by omega) (by omega)]; omega
    rw [e1, e2, e3, e4, wrap64_nat (by omega)]
    simp only [Int.toNat_natCast]
    have hrd : ∀ x, rd_T113 (out.set i x) (i : Int) = x := fun x => rdSetIv out i x (by omega)
    simp only [hrd, List.set_set]
    exact h
  · refine Ev.succ ?_
    simp only [laws_markIntervalS.l0]
    exact Ev.neg (by omega) (Ev.now _)
theorem heldIntervalS_f (n : Nat) (hl : n ≤ 1000000000) : Ev (fun k => laws_heldIntervalS.f k (marksIv n) 1) ((1 : Int) + 4 * (n : Nat)) := by
  unfold laws_heldIntervalS.f
  have key := for_gen ((1 : Int) + 4 * (n : Nat)) n (fun k i => laws_heldIntervalS.l0 k (marksIv n) (1 + 4 * i) i) (fun i hi h => ?_) ?_
  · simpa using key
  · refine Ev.succ ?_
    simp only [laws_heldIntervalS.l0]
    rw [marksIv_at n i hi]
    have e1 : wrap64 (1 + 4 * (i : Int) + 1) = 1 + 4 * (i : Int) + 1 := wrap64_id (by omega) (by omega)
    have e2 : wrap64 (1 + 4 * (i : Int) + 1 + 1) = 1 + 4 * (i : Int) + 1 + 1 := wrap64_id (by omega) (by omega)
    have e3 : wrap64 (1 + 4 * (i : Int) + 1 + 1 + 1) = 1 + 4 * (i : Int) + 1 + 1 + 1 := wrap64_id (by omega) (by omega)
    have e4 : wrap64 (1 + 4 * (i : Int) + 1 + 1 + 1 + 1) = 1 + 4 * ((i + 1 : Nat) : Int) := by rw [wrap64_id (by omega) (by omega)]; omega
    rw [e1, e2, e3, e4, wrap64_nat (by omega)]
    exact Ev.pos (by rw [marksIv_length]; omega) (Ev.pos (by omega) (Ev.pos rfl (Ev.pos rfl (Ev.pos rfl (Ev.neg (by unfold mkIv; simp) h)))))
  · refine Ev.succ ?_
    simp only [laws_heldIntervalS.l0]
    exact Ev.neg (by rw [marksIv_length]; omega) (Ev.now _)
theorem eqIntervalS_f (l : List (S113)) (hl : l.length ≤ 9223372036854775806) : Ev (fun k => laws_eqIntervalS.f k l l) true := by
  unfold laws_eqIntervalS.f
  refine Ev.pos rfl (all_gen l.length (fun k i => laws_eqIntervalS.l0 k l l i) (fun i hi h => ?_) ?_)
  · refine Ev.succ ?_
    simp only [laws_eqIntervalS.l0]
    rw [wrap64_nat (by omega)]
    have he : laws_eqInterval.f (rd_T113 l (i : Int)).f0 (rd_T113 l (i : Int)).f1 (rd_T113 l (i : Int)).f2 (rd_T113 l (i : Int)).f3 (rd_T113 l (i : Int)).f0 (rd_T113 l (i : Int)).f1 (rd_T113 l (i : Int)).f2 (rd_T113 l (i : Int)).f3 = some true := by
      unfold laws_eqInterval.f
      rw [if_pos rfl, if_pos rfl, if_pos rfl, if_neg (by simp)]
    exact Ev.pos (by omega) (Ev.pos (by omega) (Ev.pos (by omega) (Ev.eq_bind he (Ev.pos rfl h))))
  · refine Ev.succ ?_
    simp only [laws_eqIntervalS.l0]
    exact Ev.neg (by omega) (Ev.now _)
end Go.Proofs.Ythegbhfoleiegaa.All

/- FnExactIntervals: the printed law is true of all arguments. -/
namespace Go.Proofs.Ythegbhfoleiegaa.Pure
open Go.Proofs.Ythegbhfoleiegaa.All
open Go.RowKit Go.Proofs.YthegbhfoleiegaaW.PrintWords Go.Proofs.YthegbhfoleiegaaW.PrintLast Go.Proofs.YthegbhfoleiegaaW.PrintMore
set_option linter.unusedVariables false
set_option linter.unusedSimpArgs false
theorem FnExactIntervals (a0_0 : Int) (l0_1 : List Int) (l0_2 : List S165) (_ : (Lit.int .i64 a0_0).wf = true) (h1 : l0_1.length ≤ 9223372036854775807 ∧ ∀ y ∈ l0_1, (Lit.int .i64 y).wf = true) (h2 : l0_2.length ≤ 9223372036854775807 ∧ ∀ y ∈ l0_2, ok165 y) :
    ∃ k, laws_FnExactIntervals.f k a0_0 l0_1 l0_2 = some true := by
  refine Ev.rounds ?_
  unfold laws_FnExactIntervals.f
  refine Ev.bind (szVFunc_f a0_0 l0_1 l0_2 1048576 (by omega) (by omega) ⟨h1.1, lVBlockS_ok h2⟩) ?_
  by_cases hc : (sVFunc a0_0 l0_1 l0_2 : Int) ≤ 1048576
  · rw [if_pos hc]
    refine Ev.neg (by omega) ?_
    have hs : sVFunc a0_0 l0_1 l0_2 ≤ 1048576 := by omega
    have ht := toVFunc_f a0_0 l0_1 l0_2 hs
    have hb := bVFunc_of a0_0 l0_1 l0_2 hs
    have hs2 : sVBlockS l0_2 ≤ 1048576 := by unfold sVFunc at hs; omega
    have hcn := cntVBlockS l0_2
    have hlen : (l0_2.map iVBlock).length ≤ 1048576 := by rw [List.length_map]; unfold sVBlockS at hs2; omega
    obtain ⟨r, hr, hS, hI⟩ := intervals_f a0_0 l0_1 h2 hs2
    have hE := eqIntervalS_f r (by omega)
    have hM := markIntervalS_f r (by omega)
    have hH := heldIntervalS_f r.length (by omega)
    have hF := eqVFunc_f a0_0 l0_1 (l0_2.map iVBlock) hb
    have hb1 := hb.1
    have hK : laws_markVFunc.f a0_0 l0_1 (l0_2.map iVBlock) 1 = some ((1 : Int) + (cntL_int64 l0_1 : Nat) + (cntL_VBlock (l0_2.map iVBlock) : Nat)) := by
      have e : cntL_int64 l0_1 = l0_1.length := rfl
      unfold laws_markVFunc.f
      rw [if_pos (by omega), if_pos (by omega)]
    refine Ev.bind ht (Ev.bind hS (Ev.bind ht (Ev.bind hI (Ev.bind hE (Ev.pos rfl (Ev.bind ht (Ev.bind hF (Ev.pos rfl (Ev.eq_bind hK (Ev.neg (by omega) (Ev.bind hE ?_)))))))))))
    refine Ev.succ ?_
    simp only [laws_FnExactIntervals.j0]
    refine Ev.neg (by simp) (Ev.bind hM (Ev.bind hH (Ev.neg (by omega) (Ev.pos rfl ?_))))
    refine Ev.bind ht (Ev.bind hI (Ev.bind hE (Ev.pos rfl (Ev.bind hH ?_))))
    exact Ev.neg (by omega) (Ev.pos rfl (Ev.now _))
  · rw [if_neg hc]
    exact Ev.pos (by omega) (Ev.now _)
end Go.Proofs.Ythegbhfoleiegaa.Pure

