/- Part 3 of the proof of FnExactNextBlocks: functions of the translation with what they return, and plain laws of these. Written by programs of this session over the kit's print, and by hand. -/
import Derived.Test.YtoedcnhgobbnfaaProg
import Derived.Test.YtoedcnhgobbnfaaWApart
import Derived.Test.YtoedcnhgobbnfaaWArr
import Derived.Test.YtoedcnhgobbnfaaWFoot
import Derived.Test.YtoedcnhgobbnfaaWGuard
import Derived.Test.YtoedcnhgobbnfaaWKept
import Derived.Test.YtoedcnhgobbnfaaWLast
import Derived.Test.YtoedcnhgobbnfaaWMore
import Derived.Test.YtoedcnhgobbnfaaWN
import Derived.Test.YtoedcnhgobbnfaaWNEv
import Derived.Test.YtoedcnhgobbnfaaWQPut
import Derived.Test.YtoedcnhgobbnfaaWRepsOne
import Derived.Test.YtoedcnhgobbnfaaWShare
import Derived.Test.YtoedcnhgobbnfaaWTab
import Derived.Test.YtoedcnhgobbnfaaWWords
import Derived.Test.YtoedcnhgobbnfaaWZeros
import Derived.Below
import Derived.Deep.Draws
import Derived.Deep.AppendLies
import Derived.Maps.AppendAt
import Derived.OwnWalk
import Derived.Laws.BytesArg
import Derived.Laws.MakeOwn
import Derived.Laws.OwnMore
import Derived.Deep.OwnRows
import Derived.Tactics
import Derived.Lib.ConvBytes
import Derived.Laws.Slices
import Derived.WalkKit
import Derived.KernelRfl
import Derived.RowKit3
import Derived.Deep.LoopGhost
import Derived.Deep.QuietTactic
import Derived.BigQuiet
import Derived.WideLaws
import Derived.Deep.DeepCutAuto
import Derived.Deep.CutBlock
import Derived.Deep.RegionHeld3
import Derived.Laws.Rows
import Derived.Lib.AppendStr
import Derived.ArgAppend
import Derived.Laws.IdiomCopy
import Derived.OrdersHeld
import Derived.Laws.BitsLemmas
import Derived.RowKit
import Derived.Maps.OwnSet
import Derived.Maps.OwnOps
import Derived.Deep.Slices
import Derived.ChangeArms
import Derived.ProofKit
import Derived.OpenShut
import Derived.ShutString
import Derived.ChangeOld
import Derived.SizedLaws
import Derived.Test.YtoedcnhgobbnfaaCFnExactNextBlocks1
import Derived.Test.YtoedcnhgobbnfaaCFnExactNextBlocks2
namespace Go.Proofs.Ytoedcnhgobbnfaa.All
open Go.RowKit Go.Proofs.YtoedcnhgobbnfaaW.PrintWords Go.Proofs.YtoedcnhgobbnfaaW.PrintLast Go.Proofs.YtoedcnhgobbnfaaW.PrintMore
attribute [local go_sem] max2_int min2_int max_two min_two max_three min_three max_four min_four   -- for this text's walks alone
set_option linter.unusedVariables false
set_option linter.unusedSimpArgs false

/-! ### laws_eqBlockS: function 50 -/
def laws_eqBlockS.l0 : Nat → List (S62) → List (S62) → Int → Option (Bool)
  | 0, _, _, _ => none
  | k + 1, x0, x1, x5 => if x5 < (x0.length : Int) then (if 0 ≤ x5 then (if x5 < (x1.length : Int) then ((laws_eqBlock.f k ((rd_T62 x0 x5).f0) ((rd_T62 x1 x5).f0)).bind fun t286 => (if t286 = true then (laws_eqBlockS.l0 k x0 x1 (wrap64 (x5 + 1))) else (some false))) else (none)) else (none)) else (some true)
def laws_eqBlockS.f (k : Nat) (l0 : List (S62)) (l1 : List (S62)) : Option (Bool) := if (l0.length : Int) = (l1.length : Int) then (laws_eqBlockS.l0 k l0 l1 0) else (some false)
def laws_eqBlockS.T6 : Bool × List (List Nat × List Nat) := (true, [([], []), ([], []), ([0, 1], [0, 1]), ([2], [2]), ([], []), ([], []), ([4, 5], [4, 5]), ([6], [6]), ([3, 7], [3, 7]), ([8], [8])])
def laws_eqBlockS.B6 : List Nat := [0, 0, 3, 7, 0, 0, 48, 112, 255, 511]
theorem laws_eqBlockS.tab6 : rtab .any (opsOf Try.f50 6) = laws_eqBlockS.T6 := by kernel_rfl
theorem laws_eqBlockS.bits6 : waitsOk laws_eqBlockS.T6.2 laws_eqBlockS.B6 = true := by kernel_rfl
set_option maxHeartbeats 8000000 in
set_option maxRecDepth 100000 in
theorem laws_eqBlockS.calls (k : Nat) (A0 : Option Addr) (c0 : Nat) (l0 : List (S62)) (A1 : Option Addr) (c1 : Nat) (l1 : List (S62)) (r : Bool) (w : World) (hr0 : Kd.C k62 w A0 l0.length l0) (hc0 : l0.length ≤ c0) (hr1 : Kd.C k62 w A1 l1.length l1) (hc1 : l1.length ≤ c1) (h : laws_eqBlockS.f k l0 l1 = some r) :
    Calls Try.prog 50 #[.slice A0 l0.length c0, .slice A1 l1.length c1] w fun e w' => e = .returned (.bool r) ∧ Below w.heap.size w w' := by
  have hu62 := Try.underlying62
  have HR0 := Aside0.mk hr0
  have HC0 := Aside0.mk hc0
  clear hr0 hc0
  have HR1 := Aside0.mk hr1
  have HC1 := Aside0.mk hc1
  clear hr1 hc1
  have HB := Aside0.mk (Below.refl w.heap.size w)
  have H : (if (l0.length : Int) = (l1.length : Int) then (laws_eqBlockS.l0 k l0 l1 0) else (some false)) = some r := h
  clear h
  by_cases c3 : (l0.length : Int) = (l1.length : Int)
  · rw [if_pos c3] at H
    have c3b0 : ((l0.length : Int) == (l1.length : Int)) = true := beq_iff_eq.mpr c3
    have c3b1 : ((l0.length : Int) != (l1.length : Int)) = false := bne_eq_false_iff_eq.mpr c3
    have c3b2 : (l0.length == l1.length) = true := by first | simpa using c3 | (simp at c3 ⊢; omega)
    clear c3
    have H' := Aside0.mk H
    clear H
    go_enter Try.func50, Try.ntmps50
    go_wp2
    go_loopg [5] k (fun kq v5 w' => ∃ (x5_1 : Int), v5 = .int .i64 x5_1 ∧ Aside0 (laws_eqBlockS.l0 kq l0 l1 x5_1 = some r) ∧ Aside0 (kq ≤ k) ∧ Aside0 (Below w.heap.size w w'))
    case atStart => exact ⟨(0), (by first | rfl | (simp; done) | (simp [*]; done)), H', ⟨Nat.le_refl _⟩, ⟨by repeat (first | (with_reducible first | exact HB.out | apply below_alloc | apply pw_below_drewN | apply below_drew1) | exact HB.out)⟩⟩
    case round =>
      clear H'
      try clear c1
      try clear p2
      try clear c3
      try clear c3b0
      try clear c3b1
      try clear c3b2
      obtain ⟨x5_1, rfl, HA, HK1, HB⟩ := hrel
      cases gk with
      | zero => exact absurd HA.out (by simp [laws_eqBlockS.l0])
      | succ k1 =>
        have H := HA.out
        clear HA
        simp only [laws_eqBlockS.l0] at H
        by_cases c4 : x5_1 < (l0.length : Int)
        · rw [if_pos c4] at H
          have c4b0 : decide (x5_1 < (l0.length : Int)) = true := decide_eq_true c4
          clear c4
          by_cases c5 : 0 ≤ x5_1
          · rw [if_pos c5] at H
            have c5b0 : decide (0 ≤ x5_1) = true := decide_eq_true c5
            clear c5
            by_cases c6 : x5_1 < (l1.length : Int)
            · rw [if_pos c6] at H
              have c6b0 : decide (x5_1 < (l1.length : Int)) = true := decide_eq_true c6
              clear c6
              replace H := Option.bind_eq_some_iff.mp H
              obtain ⟨t286, A70, H⟩ := H
              replace H : (if t286 = true then (laws_eqBlockS.l0 k1 l0 l1 (wrap64 (x5_1 + 1))) else (some false)) = some r := H
              have A7 := Aside0.mk A70
              clear A70
              by_cases c8 : t286 = true
              · subst c8
                have H1 : (laws_eqBlockS.l0 k1 l0 l1 (wrap64 (x5_1 + 1))) = some r := by rw [if_pos rfl] at H; exact H
                clear H
                have H := H1
                clear H1
                have H' := Aside0.mk H
                clear H
                try go_wp2
                have n0_ := Aside0.mk (below_drew1 HB.out)
                clear HB
                have HB := n0_
                clear n0_
                have p284 : 0 ≤ (x5_1 : Int) := of_decide_eq_true (by first | (with_reducible assumption) | assumption)
                have q284 : x5_1 < (l0.length : Int) := of_decide_eq_true (by first | (with_reducible assumption) | assumption)
                obtain ⟨ad284, A284_0, c284_0, e284, hx284_0, hl284_0, hi284_0⟩ := at_T62 HR0.out x5_1 p284 q284
                have hw284_0 := hx284_0
                cases e284
                replace hx284_0 := (HB.out.cell (World.block_lt_of_cell? w _ hx284_0)).trans hx284_0
                have HR284_0 := Aside0.mk hi284_0
                have HC284_0 := Aside0.mk hl284_0
                clear hi284_0 hl284_0
                replace p284 := eq_true p284
                replace q284 := eq_true q284
                have p285 : 0 ≤ (x5_1 : Int) := of_decide_eq_true (by first | (with_reducible assumption) | assumption)
                have q285 : x5_1 < (l1.length : Int) := of_decide_eq_true (by first | (with_reducible assumption) | assumption)
                obtain ⟨ad285, A285_0, c285_0, e285, hx285_0, hl285_0, hi285_0⟩ := at_T62 HR1.out x5_1 p285 q285
                have hw285_0 := hx285_0
                cases e285
                replace hx285_0 := (HB.out.cell (World.block_lt_of_cell? w _ hx285_0)).trans hx285_0
                have HR285_0 := Aside0.mk hi285_0
                have HC285_0 := Aside0.mk hl285_0
                clear hi285_0 hl285_0
                replace p285 := eq_true p285
                replace q285 := eq_true q285
                refine start_ (n := 10) (S := fun w' => w'.cell? (ad284.add (x5_1).toNat) = some (.slice A284_0 ((rd_T62 l0 x5_1).f0).length c284_0) ∧ w'.cell? (ad285.add (x5_1).toNat) = some (.slice A285_0 ((rd_T62 l1 x5_1).f0).length c285_0)) (ds := []) #[false, false, false, false, false, false, false, false, false, false] (by kernel_rfl) rfl rfl ⟨((HB.out.cell (World.block_lt_of_cell? w _ hw284_0)).trans hw284_0), ((HB.out.cell (World.block_lt_of_cell? w _ hw285_0)).trans hw285_0)⟩ (fun hHeld => ?_); refine with_tabW laws_eqBlockS.tab6 laws_eqBlockS.bits6 (fun HT_ HW_ => ?_)
                generalize wr.drew = w9 at HB HR284_0 HR285_0 hx284_0 hx285_0 hHeld ⊢
                refine pure_ (i := 0) (N := some 17) (v := ?_) (a' := ?_) #[true, false, false, false, false, false, false, false, false, false] rfl rfl (any_of HT_.out (by kernel_rfl)) (fun _ _ _ h => h) (Or.inl ⟨by rfl, ?_⟩) ?_ ?_
                rotate_left
                · intro w'
                  go_simp
                  with_reducible rfl
                rotate_left
                · simp only [Act.put, List.setIfInBounds_toArray, List.set_cons_zero, List.set_cons_succ, i64_w, i32_w]
                  rfl
                refine pure_ (i := 1) (N := some 18) (v := ?_) (a' := ?_) #[true, true, false, false, false, false, false, false, false, false] rfl rfl (any_of HT_.out (by kernel_rfl)) (fun _ _ _ h => h) (Or.inl ⟨by rfl, ?_⟩) ?_ ?_
                rotate_left
                · intro w'
                  go_simp
                  with_reducible rfl
                rotate_left
                · simp only [Act.put, List.setIfInBounds_toArray, List.set_cons_zero, List.set_cons_succ, i64_w, i32_w]
                  rfl
                refine pure_ (i := 2) (N := some 19) (v := ?_) (a' := ?_) #[true, true, true, false, false, false, false, false, false, false] rfl rfl (any_of HT_.out (by kernel_rfl)) (fun _ _ _ h => h) (Or.inl ⟨by rfl, ?_⟩) ?_ ?_
                rotate_left
                · intro w'
                  go_simp
                  with_reducible rfl
                rotate_left
                · simp only [Act.put, List.setIfInBounds_toArray, List.set_cons_zero, List.set_cons_succ, i64_w, i32_w]
                  rfl
                refine pure_ (i := 4) (N := some 21) (v := ?_) (a' := ?_) #[true, true, true, false, true, false, false, false, false, false] rfl rfl (any_of HT_.out (by kernel_rfl)) (fun _ _ _ h => h) (Or.inl ⟨by rfl, ?_⟩) ?_ ?_
                rotate_left
                · intro w'
                  go_simp
                  with_reducible rfl
                rotate_left
                · simp only [Act.put, List.setIfInBounds_toArray, List.set_cons_zero, List.set_cons_succ, i64_w, i32_w]
                  rfl
                refine pure_ (i := 5) (N := some 22) (v := ?_) (a' := ?_) #[true, true, true, false, true, true, false, false, false, false] rfl rfl (any_of HT_.out (by kernel_rfl)) (fun _ _ _ h => h) (Or.inl ⟨by rfl, ?_⟩) ?_ ?_
                rotate_left
                · intro w'
                  go_simp
                  with_reducible rfl
                rotate_left
                · simp only [Act.put, List.setIfInBounds_toArray, List.set_cons_zero, List.set_cons_succ, i64_w, i32_w]
                  rfl
                refine pure_ (i := 6) (N := some 23) (v := ?_) (a' := ?_) #[true, true, true, false, true, true, true, false, false, false] rfl rfl (any_of HT_.out (by kernel_rfl)) (fun _ _ _ h => h) (Or.inl ⟨by rfl, ?_⟩) ?_ ?_
                rotate_left
                · intro w'
                  go_simp
                  with_reducible rfl
                rotate_left
                · simp only [Act.put, List.setIfInBounds_toArray, List.set_cons_zero, List.set_cons_succ, i64_w, i32_w]
                  rfl
                refine take_ (i := 3) (N := some 20) (v := ?_) (a' := ?_) #[true, true, true, true, true, true, true, false, false, false] rfl rfl (take_ofW HT_.out HW_.out (by kernel_rfl)) (fun _ _ _ h => h) (Or.inl ⟨by rfl, ?_⟩) hHeld ?_ ?_
                rotate_left
                · rintro w' ⟨s0, s1⟩
                  go_simp
                  with_reducible rfl
                rotate_left
                · simp only [Act.put, List.setIfInBounds_toArray, List.set_cons_zero, List.set_cons_succ, i64_w, i32_w]
                  rfl
                refine take_ (i := 7) (N := some 24) (v := ?_) (a' := ?_) #[true, true, true, true, true, true, true, true, false, false] rfl rfl (take_ofW HT_.out HW_.out (by kernel_rfl)) (fun _ _ _ h => h) (Or.inl ⟨by rfl, ?_⟩) hHeld ?_ ?_
                rotate_left
                · rintro w' ⟨s0, s1⟩
                  go_simp
                  with_reducible rfl
                rotate_left
                · simp only [Act.put, List.setIfInBounds_toArray, List.set_cons_zero, List.set_cons_succ, i64_w, i32_w]
                  rfl
                refine one_ (i := 8) (N := some 25) #[true, true, true, true, true, true, true, true, true, false] rfl rfl (one_of HT_.out (by kernel_rfl)) (by decide) (fun K hK => ?_)
                refine goes_ Try.func71 (by kernel_rfl) rfl #[.agg #[.slice A284_0 ((rd_T62 l0 x5_1).f0).length c284_0], .agg #[.slice A285_0 ((rd_T62 l1 x5_1).f0).length c285_0]] (by rfl) rfl rfl (by (try simp only [List.map_toArray, List.map_cons, List.map_nil]); first | done | rfl | (simp only [List.length_drop, List.length_take]; rfl)) ?_
                with_reducible refine (laws_eqBlock.calls k1 _ _ ((rd_T62 l0 x5_1).f0) _ _ ((rd_T62 l1 x5_1).f0) true _ ?side1 ?side2 ?side3 ?side4 A7.out).mono ?_
                (case side1 => repeat (first | exact (Kd.C_below HR284_0.out HB.out) | (with_reducible refine Kd.C_alloc ?_ _) | (with_reducible refine Kd.C_drewN ?_ _) | (with_reducible refine Kd.C_drew ?_)))
                (case side2 => exact HC284_0.out)
                (case side3 => repeat (first | exact (Kd.C_below HR285_0.out HB.out) | (with_reducible refine Kd.C_alloc ?_ _) | (with_reducible refine Kd.C_drewN ?_ _) | (with_reducible refine Kd.C_drew ?_)))
                (case side4 => exact HC285_0.out)
                rintro e w10 ⟨rfl, hb⟩
                refine ⟨_, rfl, ?_⟩
                have n0_ := Aside0.mk (below_step (by repeat (first | (with_reducible first | exact HB.out | apply below_alloc | apply pw_below_drewN | apply below_drew1) | exact HB.out)) hb)
                clear HB
                have HB := n0_
                clear n0_
                (try clear hb)
                (try clear hb2)
                (try clear hk)
                (try clear hi)
                refine hK.out _ _ ⟨((HB.out.cell (World.block_lt_of_cell? w _ hw284_0)).trans hw284_0), ((HB.out.cell (World.block_lt_of_cell? w _ hw285_0)).trans hw285_0)⟩ (fun hHeld => ?_)
                clear hK K
                refine norm_ (a' := ?_) ?_ ?_
                rotate_left
                · show Act.put _ (some 25) _ = _
                  simp only [Act.put, List.setIfInBounds_toArray, List.set_cons_zero, List.set_cons_succ, i64_w, i32_w]
                  rfl
                refine pure_ (i := 9) (N := some 26) (v := ?_) (a' := ?_) #[true, true, true, true, true, true, true, true, true, true] rfl rfl (any_of HT_.out (by kernel_rfl)) (fun _ _ _ h => h) (Or.inl ⟨by rfl, ?_⟩) ?_ ?_
                rotate_left
                · intro w'
                  go_simp
                  with_reducible rfl
                rotate_left
                · simp only [Act.put, List.setIfInBounds_toArray, List.set_cons_zero, List.set_cons_succ, i64_w, i32_w]
                  rfl
                refine done_ (done_of HT_.out (by kernel_rfl)) ?_
                try go_wp2
                go_roundg k1
                case measure => have := HK1.out; omega
                case rel => exact ⟨(wrap64 (x5_1 + 1)), (by first | rfl | (simp; done) | (simp [*]; done)), H', ⟨by have := HK1.out; omega⟩, ⟨by repeat (first | (with_reducible first | exact HB.out | apply below_alloc | apply pw_below_drewN | apply below_drew1) | exact HB.out)⟩⟩
              · replace c8 := Bool.eq_false_iff.mpr c8
                subst c8
                have H1 : (some false) = some r := by rw [if_neg (show ¬ (false = true) by decide)] at H; exact H
                clear H
                have H := H1
                clear H1
                obtain rfl := Option.some.inj H
                try go_wp2
                have n0_ := Aside0.mk (below_drew1 HB.out)
                clear HB
                have HB := n0_
                clear n0_
                have p284 : 0 ≤ (x5_1 : Int) := of_decide_eq_true (by first | (with_reducible assumption) | assumption)
                have q284 : x5_1 < (l0.length : Int) := of_decide_eq_true (by first | (with_reducible assumption) | assumption)
                obtain ⟨ad284, A284_0, c284_0, e284, hx284_0, hl284_0, hi284_0⟩ := at_T62 HR0.out x5_1 p284 q284
                have hw284_0 := hx284_0
                cases e284
                replace hx284_0 := (HB.out.cell (World.block_lt_of_cell? w _ hx284_0)).trans hx284_0
                have HR284_0 := Aside0.mk hi284_0
                have HC284_0 := Aside0.mk hl284_0
                clear hi284_0 hl284_0
                replace p284 := eq_true p284
                replace q284 := eq_true q284
                have p285 : 0 ≤ (x5_1 : Int) := of_decide_eq_true (by first | (with_reducible assumption) | assumption)
                have q285 : x5_1 < (l1.length : Int) := of_decide_eq_true (by first | (with_reducible assumption) | assumption)
                obtain ⟨ad285, A285_0, c285_0, e285, hx285_0, hl285_0, hi285_0⟩ := at_T62 HR1.out x5_1 p285 q285
                have hw285_0 := hx285_0
                cases e285
                replace hx285_0 := (HB.out.cell (World.block_lt_of_cell? w _ hx285_0)).trans hx285_0
                have HR285_0 := Aside0.mk hi285_0
                have HC285_0 := Aside0.mk hl285_0
                clear hi285_0 hl285_0
                replace p285 := eq_true p285
                replace q285 := eq_true q285
                refine start_ (n := 10) (S := fun w' => w'.cell? (ad284.add (x5_1).toNat) = some (.slice A284_0 ((rd_T62 l0 x5_1).f0).length c284_0) ∧ w'.cell? (ad285.add (x5_1).toNat) = some (.slice A285_0 ((rd_T62 l1 x5_1).f0).length c285_0)) (ds := []) #[false, false, false, false, false, false, false, false, false, false] (by kernel_rfl) rfl rfl ⟨((HB.out.cell (World.block_lt_of_cell? w _ hw284_0)).trans hw284_0), ((HB.out.cell (World.block_lt_of_cell? w _ hw285_0)).trans hw285_0)⟩ (fun hHeld => ?_); refine with_tabW laws_eqBlockS.tab6 laws_eqBlockS.bits6 (fun HT_ HW_ => ?_)
                generalize wr.drew = w11 at HB HR284_0 HR285_0 hx284_0 hx285_0 hHeld ⊢
                refine pure_ (i := 0) (N := some 17) (v := ?_) (a' := ?_) #[true, false, false, false, false, false, false, false, false, false] rfl rfl (any_of HT_.out (by kernel_rfl)) (fun _ _ _ h => h) (Or.inl ⟨by rfl, ?_⟩) ?_ ?_
                rotate_left
                · intro w'
                  go_simp
                  with_reducible rfl
                rotate_left
                · simp only [Act.put, List.setIfInBounds_toArray, List.set_cons_zero, List.set_cons_succ, i64_w, i32_w]
                  rfl
                refine pure_ (i := 1) (N := some 18) (v := ?_) (a' := ?_) #[true, true, false, false, false, false, false, false, false, false] rfl rfl (any_of HT_.out (by kernel_rfl)) (fun _ _ _ h => h) (Or.inl ⟨by rfl, ?_⟩) ?_ ?_
                rotate_left
                · intro w'
                  go_simp
                  with_reducible rfl
                rotate_left
                · simp only [Act.put, List.setIfInBounds_toArray, List.set_cons_zero, List.set_cons_succ, i64_w, i32_w]
                  rfl
                refine pure_ (i := 2) (N := some 19) (v := ?_) (a' := ?_) #[true, true, true, false, false, false, false, false, false, false] rfl rfl (any_of HT_.out (by kernel_rfl)) (fun _ _ _ h => h) (Or.inl ⟨by rfl, ?_⟩) ?_ ?_
                rotate_left
                · intro w'
                  go_simp
                  with_reducible rfl
                rotate_left
                · simp only [Act.put, List.setIfInBounds_toArray, List.set_cons_zero, List.set_cons_succ, i64_w, i32_w]
                  rfl
                refine pure_ (i := 4) (N := some 21) (v := ?_) (a' := ?_) #[true, true, true, false, true, false, false, false, false, false] rfl rfl (any_of HT_.out (by kernel_rfl)) (fun _ _ _ h => h) (Or.inl ⟨by rfl, ?_⟩) ?_ ?_
                rotate_left
                · intro w'
                  go_simp
                  with_reducible rfl
                rotate_left
                · simp only [Act.put, List.setIfInBounds_toArray, List.set_cons_zero, List.set_cons_succ, i64_w, i32_w]
                  rfl
                refine pure_ (i := 5) (N := some 22) (v := ?_) (a' := ?_) #[true, true, true, false, true, true, false, false, false, false] rfl rfl (any_of HT_.out (by kernel_rfl)) (fun _ _ _ h => h) (Or.inl ⟨by rfl, ?_⟩) ?_ ?_
                rotate_left
                · intro w'
                  go_simp
                  with_reducible rfl
                rotate_left
                · simp only [Act.put, List.setIfInBounds_toArray, List.set_cons_zero, List.set_cons_succ, i64_w, i32_w]
                  rfl
                refine pure_ (i := 6) (N := some 23) (v := ?_) (a' := ?_) #[true, true, true, false, true, true, true, false, false, false] rfl rfl (any_of HT_.out (by kernel_rfl)) (fun _ _ _ h => h) (Or.inl ⟨by rfl, ?_⟩) ?_ ?_
                rotate_left
                · intro w'
                  go_simp
                  with_reducible rfl
                rotate_left
                · simp only [Act.put, List.setIfInBounds_toArray, List.set_cons_zero, List.set_cons_succ, i64_w, i32_w]
                  rfl
                refine take_ (i := 3) (N := some 20) (v := ?_) (a' := ?_) #[true, true, true, true, true, true, true, false, false, false] rfl rfl (take_ofW HT_.out HW_.out (by kernel_rfl)) (fun _ _ _ h => h) (Or.inl ⟨by rfl, ?_⟩) hHeld ?_ ?_
                rotate_left
                · rintro w' ⟨s0, s1⟩
                  go_simp
                  with_reducible rfl
                rotate_left
                · simp only [Act.put, List.setIfInBounds_toArray, List.set_cons_zero, List.set_cons_succ, i64_w, i32_w]
                  rfl
                refine take_ (i := 7) (N := some 24) (v := ?_) (a' := ?_) #[true, true, true, true, true, true, true, true, false, false] rfl rfl (take_ofW HT_.out HW_.out (by kernel_rfl)) (fun _ _ _ h => h) (Or.inl ⟨by rfl, ?_⟩) hHeld ?_ ?_
                rotate_left
                · rintro w' ⟨s0, s1⟩
                  go_simp
                  with_reducible rfl
                rotate_left
                · simp only [Act.put, List.setIfInBounds_toArray, List.set_cons_zero, List.set_cons_succ, i64_w, i32_w]
                  rfl
                refine one_ (i := 8) (N := some 25) #[true, true, true, true, true, true, true, true, true, false] rfl rfl (one_of HT_.out (by kernel_rfl)) (by decide) (fun K hK => ?_)
                refine goes_ Try.func71 (by kernel_rfl) rfl #[.agg #[.slice A284_0 ((rd_T62 l0 x5_1).f0).length c284_0], .agg #[.slice A285_0 ((rd_T62 l1 x5_1).f0).length c285_0]] (by rfl) rfl rfl (by (try simp only [List.map_toArray, List.map_cons, List.map_nil]); first | done | rfl | (simp only [List.length_drop, List.length_take]; rfl)) ?_
                with_reducible refine (laws_eqBlock.calls k1 _ _ ((rd_T62 l0 x5_1).f0) _ _ ((rd_T62 l1 x5_1).f0) false _ ?side1 ?side2 ?side3 ?side4 A7.out).mono ?_
                (case side1 => repeat (first | exact (Kd.C_below HR284_0.out HB.out) | (with_reducible refine Kd.C_alloc ?_ _) | (with_reducible refine Kd.C_drewN ?_ _) | (with_reducible refine Kd.C_drew ?_)))
                (case side2 => exact HC284_0.out)
                (case side3 => repeat (first | exact (Kd.C_below HR285_0.out HB.out) | (with_reducible refine Kd.C_alloc ?_ _) | (with_reducible refine Kd.C_drewN ?_ _) | (with_reducible refine Kd.C_drew ?_)))
                (case side4 => exact HC285_0.out)
                rintro e w12 ⟨rfl, hb⟩
                refine ⟨_, rfl, ?_⟩
                have n0_ := Aside0.mk (below_step (by repeat (first | (with_reducible first | exact HB.out | apply below_alloc | apply pw_below_drewN | apply below_drew1) | exact HB.out)) hb)
                clear HB
                have HB := n0_
                clear n0_
                (try clear hb)
                (try clear hb2)
                (try clear hk)
                (try clear hi)
                refine hK.out _ _ ⟨((HB.out.cell (World.block_lt_of_cell? w _ hw284_0)).trans hw284_0), ((HB.out.cell (World.block_lt_of_cell? w _ hw285_0)).trans hw285_0)⟩ (fun hHeld => ?_)
                clear hK K
                refine norm_ (a' := ?_) ?_ ?_
                rotate_left
                · show Act.put _ (some 25) _ = _
                  simp only [Act.put, List.setIfInBounds_toArray, List.set_cons_zero, List.set_cons_succ, i64_w, i32_w]
                  rfl
                refine pure_ (i := 9) (N := some 26) (v := ?_) (a' := ?_) #[true, true, true, true, true, true, true, true, true, true] rfl rfl (any_of HT_.out (by kernel_rfl)) (fun _ _ _ h => h) (Or.inl ⟨by rfl, ?_⟩) ?_ ?_
                rotate_left
                · intro w'
                  go_simp
                  with_reducible rfl
                rotate_left
                · simp only [Act.put, List.setIfInBounds_toArray, List.set_cons_zero, List.set_cons_succ, i64_w, i32_w]
                  rfl
                refine done_ (done_of HT_.out (by kernel_rfl)) ?_
                try go_wp2
                go_ret
                exact ⟨by first | rfl | (simp [errW_none, errW_some] <;> rfl) | (simp [*, errW_none, errW_some] <;> rfl), by repeat (first | (with_reducible first | exact HB.out | apply below_alloc | apply pw_below_drewN | apply below_drew1) | exact HB.out)⟩
            · rw [if_neg c6] at H
              exact absurd H (by simp)
          · rw [if_neg c5] at H
            exact absurd H (by simp)
        · rw [if_neg c4] at H
          have c4b0 : decide (x5_1 < (l0.length : Int)) = false := decide_eq_false c4
          clear c4
          obtain rfl := Option.some.inj H
          go_wp2
          go_ret
          exact ⟨by first | rfl | (simp [errW_none, errW_some] <;> rfl) | (simp [*, errW_none, errW_some] <;> rfl), by repeat (first | (with_reducible first | exact HB.out | apply below_alloc | apply pw_below_drewN | apply below_drew1) | exact HB.out)⟩
  · rw [if_neg c3] at H
    have c3b0 : ((l0.length : Int) == (l1.length : Int)) = false := beq_eq_false_iff_ne.mpr c3
    have c3b1 : ((l0.length : Int) != (l1.length : Int)) = true := bne_iff_ne.mpr c3
    have c3b2 : (l0.length == l1.length) = false := by first | simpa using c3 | (simp at c3 ⊢; omega)
    obtain rfl := Option.some.inj H
    go_enter Try.func50, Try.ntmps50
    go_wp2
    go_ret
    exact ⟨by first | rfl | (simp [errW_none, errW_some] <;> rfl) | (simp [*, errW_none, errW_some] <;> rfl), by repeat (first | (with_reducible first | exact HB.out | apply below_alloc | apply pw_below_drewN | apply below_drew1) | exact HB.out)⟩

end Go.Proofs.Ytoedcnhgobbnfaa.All

namespace Go.Proofs.Ytoedcnhgobbnfaa.All
open Go.RowKit Go.Proofs.YtoedcnhgobbnfaaW.PrintWords Go.Proofs.YtoedcnhgobbnfaaW.PrintLast Go.Proofs.YtoedcnhgobbnfaaW.PrintMore
attribute [local go_sem] max2_int min2_int max_two min_two max_three min_three max_four min_four   -- for this text's walks alone
set_option linter.unusedVariables false
set_option linter.unusedSimpArgs false

/-! ### laws_eqFunc: function 16 -/
def laws_eqFunc.f (k : Nat) (a0_0 : ByteArray) (a0_1 : Int) (l0_2 : List Int) (a0_3 : Int) (l0_4 : List (S62)) (a1_0 : ByteArray) (a1_1 : Int) (l1_2 : List Int) (a1_3 : Int) (l1_4 : List (S62)) : Option Bool := if a0_0 = a1_0 then (if a0_1 = a1_1 then (((laws_eqInt64S.f k l0_2 l1_2).bind fun t2 => (if t2 = true then (if a0_3 = a1_3 then (((laws_eqBlockS.f k l0_4 l1_4).bind fun t4 => (if t4 = true then (some true) else none))) else none) else none))) else none) else none
set_option maxHeartbeats 4000000 in
set_option maxRecDepth 100000 in
theorem laws_eqFunc.calls (k : Nat) (a0_0 : ByteArray) (a0_1 : Int) (A0_2 : Option Addr) (c0_2 : Nat) (l0_2 : List Int) (a0_3 : Int) (A0_4 : Option Addr) (c0_4 : Nat) (l0_4 : List (S62)) (a1_0 : ByteArray) (a1_1 : Int) (A1_2 : Option Addr) (c1_2 : Nat) (l1_2 : List Int) (a1_3 : Int) (A1_4 : Option Addr) (c1_4 : Nat) (l1_4 : List (S62)) (r : Bool) (w : World) (hr0_2 : Kd.C (Kd.int .i64) w A0_2 l0_2.length l0_2) (hc0_2 : l0_2.length ≤ c0_2) (hr0_4 : Kd.C k62 w A0_4 l0_4.length l0_4) (hc0_4 : l0_4.length ≤ c0_4) (hr1_2 : Kd.C (Kd.int .i64) w A1_2 l1_2.length l1_2) (hc1_2 : l1_2.length ≤ c1_2) (hr1_4 : Kd.C k62 w A1_4 l1_4.length l1_4) (hc1_4 : l1_4.length ≤ c1_4) (h : laws_eqFunc.f k a0_0 a0_1 l0_2 a0_3 l0_4 a1_0 a1_1 l1_2 a1_3 l1_4 = some r) :
    Calls Try.prog 16 #[.agg #[.string a0_0, .int .i64 a0_1, .slice A0_2 l0_2.length c0_2, .int .i64 a0_3, .slice A0_4 l0_4.length c0_4], .agg #[.string a1_0, .int .i64 a1_1, .slice A1_2 l1_2.length c1_2, .int .i64 a1_3, .slice A1_4 l1_4.length c1_4]] w fun e w' => e = .returned (.bool r) ∧ Below w.heap.size w w' := by
  unfold laws_eqFunc.f at h
  by_cases e0 : a0_0 = a1_0
  rotate_left
  · rw [if_neg e0] at h; cases h
  rw [if_pos e0] at h
  subst e0
  by_cases e1 : a0_1 = a1_1
  rotate_left
  · rw [if_neg e1] at h; cases h
  rw [if_pos e1] at h
  subst e1
  obtain ⟨t2, b2, h2⟩ := Option.bind_eq_some_iff.mp h
  clear h
  by_cases e2 : t2 = true
  rotate_left
  · rw [if_neg e2] at h2; cases h2
  rw [if_pos e2] at h2
  subst e2
  have B2 := Aside0.mk b2
  clear b2
  by_cases e3 : a0_3 = a1_3
  rotate_left
  · rw [if_neg e3] at h2; cases h2
  rw [if_pos e3] at h2
  subst e3
  obtain ⟨t4, b4, h4⟩ := Option.bind_eq_some_iff.mp h2
  clear h2
  by_cases e4 : t4 = true
  rotate_left
  · rw [if_neg e4] at h4; cases h4
  rw [if_pos e4] at h4
  subst e4
  have B4 := Aside0.mk b4
  clear b4
  obtain rfl := Option.some.inj h4
  clear h4
  have R0_2 := Aside0.mk hr0_2; have C0_2 := Aside0.mk hc0_2; clear hr0_2 hc0_2
  have R0_4 := Aside0.mk hr0_4; have C0_4 := Aside0.mk hc0_4; clear hr0_4 hc0_4
  have R1_2 := Aside0.mk hr1_2; have C1_2 := Aside0.mk hc1_2; clear hr1_2 hc1_2
  have R1_4 := Aside0.mk hr1_4; have C1_4 := Aside0.mk hc1_4; clear hr1_4 hc1_4
  have hu := Try.underlying30
  go_enter Try.func16, Try.ntmps16
  go_wp2_with (first | (go_at_call 19; refine calls_at (fun W => Below w.heap.size w W ∧ W.heap[w.heap.size]? = some (.cells #[.string a0_0, .int .i64 a0_1, .slice A0_2 l0_2.length c0_2, .int .i64 a0_3, .slice A0_4 l0_4.length c0_4] 30 (0, 0)) ∧ W.heap[w.heap.size + 1]? = some (.cells #[.string a0_0, .int .i64 a0_1, .slice A1_2 l1_2.length c1_2, .int .i64 a0_3, .slice A1_4 l1_4.length c1_4] 30 (0, 0))) ?h_2 ?_; (case h_2 => exact ⟨below_alloc (below_alloc (Below.refl _ _) _) _, alloc2_0 _ _ _, alloc2_1 _ _ _⟩); rintro W2 ⟨b2, p2, q2⟩; refine (laws_eqInt64S.calls k A0_2 c0_2 l0_2 A1_2 c1_2 l1_2 true W2 (Kd.C_below R0_2.out b2) C0_2.out (Kd.C_below R1_2.out b2) C1_2.out B2.out).mono ?_; rintro e w2 ⟨rfl, d2⟩; have d2 := d2.below; have BW2 := Aside0.mk (below_step b2 d2); have P2 := Aside0.mk ((d2.block _ (blk_lt p2)).trans p2); have Q2 := Aside0.mk ((d2.block _ (blk_lt q2)).trans q2); clear b2 p2 q2 d2; have x2_3 : w2.cell? ⟨w.heap.size, 3, none⟩ = some (.int .i64 a0_3) := (blk_cell P2.out 3).trans rfl; have y2_3 : w2.cell? ⟨w.heap.size + 1, 3, none⟩ = some (.int .i64 a0_3) := (blk_cell Q2.out 3).trans rfl; have x2_4 : w2.cell? ⟨w.heap.size, 4, none⟩ = some (.slice A0_4 l0_4.length c0_4) := (blk_cell P2.out 4).trans rfl; have y2_4 : w2.cell? ⟨w.heap.size + 1, 4, none⟩ = some (.slice A1_4 l1_4.length c1_4) := (blk_cell Q2.out 4).trans rfl) | (go_at_call 50; refine calls_at (fun W => Below w.heap.size w W ∧ W.heap[w.heap.size]? = some (.cells #[.string a0_0, .int .i64 a0_1, .slice A0_2 l0_2.length c0_2, .int .i64 a0_3, .slice A0_4 l0_4.length c0_4] 30 (0, 0)) ∧ W.heap[w.heap.size + 1]? = some (.cells #[.string a0_0, .int .i64 a0_1, .slice A1_2 l1_2.length c1_2, .int .i64 a0_3, .slice A1_4 l1_4.length c1_4] 30 (0, 0))) ?h_4 ?_; (case h_4 => exact ⟨BW2.out, P2.out, Q2.out⟩); rintro W4 ⟨b4, p4, q4⟩; refine (laws_eqBlockS.calls k A0_4 c0_4 l0_4 A1_4 c1_4 l1_4 true W4 (Kd.C_below R0_4.out b4) C0_4.out (Kd.C_below R1_4.out b4) C1_4.out B4.out).mono ?_; rintro e w4 ⟨rfl, d4⟩; have BW4 := Aside0.mk (below_step b4 d4); have P4 := Aside0.mk ((d4.block _ (blk_lt p4)).trans p4); have Q4 := Aside0.mk ((d4.block _ (blk_lt q4)).trans q4); clear b4 p4 q4 d4))
  go_ret
  exact ⟨rfl, BW4.out⟩

end Go.Proofs.Ytoedcnhgobbnfaa.All

namespace Go.Proofs.Ytoedcnhgobbnfaa.All
open Go.RowKit Go.Proofs.YtoedcnhgobbnfaaW.PrintWords Go.Proofs.YtoedcnhgobbnfaaW.PrintLast Go.Proofs.YtoedcnhgobbnfaaW.PrintMore
attribute [local go_sem] max2_int min2_int max_two min_two max_three min_three max_four min_four   -- for this text's walks alone
set_option linter.unusedVariables false
set_option linter.unusedSimpArgs false

/-! ### laws_markInt64S: function 21 -/
def laws_markInt64S.l0 : Nat → List Int → Int → Int → Option (Int × List Int)
  | 0, _, _, _ => none
  | k + 1, x0, x1, x5 => if x5 < (x0.length : Int) then (if 0 ≤ x5 then (laws_markInt64S.l0 k (x0.set (x5 : Int).toNat x1) (wrap64 (x1 + 1)) (wrap64 (x5 + 1))) else (none)) else (some (x1, x0))
def laws_markInt64S.f (k : Nat) (l0 : List Int) (a1 : Int) : Option (Int × List Int) := laws_markInt64S.l0 k l0 a1 0
set_option maxHeartbeats 8000000 in
set_option maxRecDepth 100000 in
theorem laws_markInt64S.calls (k : Nat) (P0_ : Nat → Prop) (u9000_ : Value) (l0 : List Int) (a1 : Int) (r1 : Int) (r2 : List Int) (w0 w : World) (hB : Below w0.heap.size w0 w) (ho0 : Kd.R (Kd.int .i64) 2 w w0.heap.size P0_ u9000_ l0) (h : laws_markInt64S.f k l0 a1 = some (r1, r2)) :
    Calls Try.prog 21 #[u9000_, .int .i64 a1] w fun e w' => e = .returned (.int .i64 r1) ∧ Kd.R (Kd.int .i64) 2 w' w0.heap.size (fun k_ => (P0_ k_ ∨ w.heap.size ≤ k_)) u9000_ r2 ∧ Below w0.heap.size w0 w' ∧ Kept w w' (fun k_ => P0_ k_) := by
  have HO0 := Aside0.mk (show Kd.R (Kd.int .i64) 2 w w0.heap.size (fun k_ => (P0_ k_ ∨ w.heap.size ≤ k_)) u9000_ l0 from Kd.R_mono ho0 (fun k_ hk => (.inl hk)))
  have HK := Aside0.mk (Kept.refl w (fun k_ => P0_ k_))
  have HW0 := Aside0.mk hB.size
  have HB := Aside0.mk hB
  clear hB
  have H : (laws_markInt64S.l0 k l0 a1 0) = some (r1, r2) := h
  clear h
  have H' := Aside0.mk H
  clear H
  go_enter Try.func21, Try.ntmps21
  go_wp2
  go_loopg [1, 5] k (fun kq v1 v5 w' => ∃ (x0_1 : List Int) (x1_1 : Int) (x5_1 : Int), v1 = .int .i64 x1_1 ∧ v5 = .int .i64 x5_1 ∧ Aside0 (laws_markInt64S.l0 kq x0_1 x1_1 x5_1 = some (r1, r2)) ∧ Aside0 (kq ≤ k) ∧ Aside0 (Kd.R (Kd.int .i64) 2 w' w0.heap.size (fun k_ => (P0_ k_ ∨ w.heap.size ≤ k_)) u9000_ x0_1) ∧ Aside0 (Kept w w' (fun k_ => P0_ k_)) ∧ Aside0 (Below w0.heap.size w0 w'))
  case atStart => exact ⟨(l0), (a1), (0), (by first | rfl | (simp; done) | (simp [*]; done)), (by first | rfl | (simp; done) | (simp [*]; done)), H', ⟨Nat.le_refl _⟩, ⟨by (with_reducible repeat (first | apply Kd.R_alloc | apply Kd.R_drewN | apply Kd.R_drew)); exact HO0.out⟩, ⟨by repeat (first | (with_reducible first | exact HK.out | apply Kept.alloc | apply Kept.drewN | apply Kept.drew) | exact HK.out)⟩, ⟨by repeat (first | (with_reducible first | exact HB.out | apply below_alloc | apply pw_below_drewN | apply below_drew1) | exact HB.out)⟩⟩
  case round =>
    clear H'
    try clear c2
    try clear p2
    obtain ⟨x0_1, x1_1, x5_1, rfl, rfl, HA, HK1, HO_0, HK, HB⟩ := hrel
    cases gk with
    | zero => exact absurd HA.out (by simp [laws_markInt64S.l0])
    | succ k1 =>
      have H := HA.out
      clear HA
      simp only [laws_markInt64S.l0] at H
      by_cases c3 : x5_1 < (x0_1.length : Int)
      · rw [if_pos c3] at H
        have c3b0 : decide (x5_1 < (x0_1.length : Int)) = true := decide_eq_true c3
        clear c3
        by_cases c4 : 0 ≤ x5_1
        · rw [if_pos c4] at H
          have c4b0 : decide (0 ≤ x5_1) = true := decide_eq_true c4
          clear c4
          obtain ⟨y320, hy320⟩ : ∃ y_ : List Int, y_ = (x0_1.set (x5_1 : Int).toNat x1_1) := ⟨_, rfl⟩
          replace H : (laws_markInt64S.l0 k1 y320 (wrap64 (x1_1 + 1)) (wrap64 (x5_1 + 1))) = some (r1, r2) := by first | (rw [hy320]; with_reducible exact H) | (have H2_ := (Option.bind_some _ _).symm.trans H; rw [hy320]; with_reducible exact H2_) | (have H2_ := (Option.bind_some _ _).symm.trans H; with_reducible exact H2_) | with_reducible exact H | (rw [hy320]; exact H) | exact H
          have Ny320 := Aside0.mk hy320
          clear hy320
          have H' := Aside0.mk H
          clear H
          obtain ⟨Ao6, co6, eo6⟩ := Kd.R_slice HO_0.out
          subst eo6
          have p5 : 0 ≤ (x5_1 : Int) := of_decide_eq_true (by first | (with_reducible assumption) | assumption)
          have q5 : (x5_1 : Int) < ((x0_1.length : Int) : Int) := of_decide_eq_true (by first | (with_reducible assumption) | assumption)
          obtain ⟨go5, co5, eo5, gb5, gl5, cl5, HG5⟩ := Kd.R_form HO_0.out (by omega)
          (first | cases eo5 | (injection eo5 with ea_ en_ ec_; (first | subst ea_ | (injection ea_ with ea_; subst ea_)); subst ec_; clear en_))
          have GB5 := Aside0.mk gb5
          have GG5 := Aside0.mk HG5
          clear gb5 gl5 HG5
          have HMgo5 := Aside0.mk (show (P0_ go5 ∨ w.heap.size ≤ go5) from (HO_0.out.1 _ rfl))
          obtain ⟨hx5_0, hf5_0⟩ := Kd.R_celln 0 HO_0.out (x5_1 : Int) p5 q5
          replace p5 := eq_true p5
          replace q5 := eq_true q5
          have HP7 := Kd.R_putg HO_0.out (x5_1 : Int) x1_1
          go_wp2_with (first | ((with_reducible refine gate_store (t := 2) (p := 15) rfl ?_); refine store_event (t := 2) (p := 15) (v := ?vo_w8) (w1 := (wr.setCell ⟨go5, (x5_1 : Int).toNat, none⟩ (.int .i64 x1_1))) ?hg ?ho ?hn ?hr ?_; (case ho => rfl); (case hg => rfl); (case hn => rfl); (case hr => first | (go_simp; done) | (go_simp; rfl)); intro w8 hw; have hg : wr.grownBy w8 (some go5) := (by rw [hw]; exact HP7.2); have hp_ : Kd.R (Kd.int .i64) 2 w8 w0.heap.size (fun k_ => (P0_ k_ ∨ w.heap.size ≤ k_)) (.slice (some ⟨go5, 0, none⟩) x0_1.length co6) y320 := (by rw [hw, Ny320.out]; exact HP7.1); clear HP7; have n0_ := Aside0.mk (hp_); have n1_ := Aside0.mk ((by rw [hw]; exact below_set (HB.out) GB5.out : Below w0.heap.size w0 w8)); have n2_ := Aside0.mk (Kept.of_grown (S := (fun k_ => P0_ k_)) hg (by repeat (first | (with_reducible first | exact HK.out | apply Kept.alloc | apply Kept.drewN | apply Kept.drew) | exact HK.out)) (fun k_ e_ => (HO_0.out.1 k_ e_))); clear HO_0; clear HB; clear HK; have HO_0 := n0_; have HB := n1_; have HK := n2_; clear n0_ n1_ n2_; clear hg hw hp_))
          go_roundg k1
          case measure => have := HK1.out; omega
          case rel => exact ⟨(y320), (wrap64 (x1_1 + 1)), (wrap64 (x5_1 + 1)), (by first | rfl | (simp; done) | (simp [*]; done)), (by first | rfl | (simp; done) | (simp [*]; done)), H', ⟨by have := HK1.out; omega⟩, ⟨by (with_reducible repeat (first | apply Kd.R_alloc | apply Kd.R_drewN | apply Kd.R_drew)); exact HO_0.out⟩, ⟨by repeat (first | (with_reducible first | exact HK.out | apply Kept.alloc | apply Kept.drewN | apply Kept.drew) | exact HK.out)⟩, ⟨by repeat (first | (with_reducible first | exact HB.out | apply below_alloc | apply pw_below_drewN | apply below_drew1) | exact HB.out)⟩⟩
        · rw [if_neg c4] at H
          exact absurd H (by simp)
      · rw [if_neg c3] at H
        have c3b0 : decide (x5_1 < (x0_1.length : Int)) = false := decide_eq_false c3
        clear c3
        simp only [Option.some.injEq, Prod.mk.injEq] at H
        obtain ⟨rfl, rfl⟩ := H
        obtain ⟨Ao9, co9, eo9⟩ := Kd.R_slice HO_0.out
        subst eo9
        go_wp2
        go_ret
        exact ⟨by first | rfl | (simp [errW_none, errW_some] <;> rfl) | (simp [*, errW_none, errW_some] <;> rfl), by (with_reducible repeat (first | apply Kd.R_alloc | apply Kd.R_drewN | apply Kd.R_drew)); exact HO_0.out, by repeat (first | (with_reducible first | exact HB.out | apply below_alloc | apply pw_below_drewN | apply below_drew1) | exact HB.out), by repeat (first | (with_reducible first | exact HK.out | apply Kept.alloc | apply Kept.drewN | apply Kept.drew) | exact HK.out)⟩

end Go.Proofs.Ytoedcnhgobbnfaa.All

/- The walks of the laws' mark functions, as what they leave. Printed by gen_mark.py. -/
namespace Go.Proofs.Ytoedcnhgobbnfaa.All
open Go.RowKit Go.Proofs.YtoedcnhgobbnfaaW.PrintWords Go.Proofs.YtoedcnhgobbnfaaW.PrintLast Go.Proofs.YtoedcnhgobbnfaaW.PrintMore
set_option linter.unusedVariables false
set_option linter.unusedSimpArgs false
def cntL_int64 (xs : List Int) : Nat := xs.length
theorem cntL_int64_same {xs ys : List Int} (h : sameL (Shp.int .i64).same xs ys) : cntL_int64 ys = cntL_int64 xs := h.1
theorem cntL_int64_take (xs : List Int) (m : Nat) (h : m < xs.length) : cntL_int64 (xs.take (m + 1)) = cntL_int64 (xs.take m) + 1 := by unfold cntL_int64; rw [List.length_take, List.length_take]; omega
theorem cntL_int64_le (xs : List Int) (m : Nat) : cntL_int64 (xs.take m) ≤ cntL_int64 xs := by unfold cntL_int64; rw [List.length_take]; omega
theorem cntL_int64_len (xs : List Int) : xs.length ≤ cntL_int64 xs := Nat.le_refl _
def cntL_uint64 (xs : List Int) : Nat := xs.length
theorem cntL_uint64_same {xs ys : List Int} (h : sameL (Shp.int .u64).same xs ys) : cntL_uint64 ys = cntL_uint64 xs := h.1
theorem cntL_uint64_take (xs : List Int) (m : Nat) (h : m < xs.length) : cntL_uint64 (xs.take (m + 1)) = cntL_uint64 (xs.take m) + 1 := by unfold cntL_uint64; rw [List.length_take, List.length_take]; omega
theorem cntL_uint64_le (xs : List Int) (m : Nat) : cntL_uint64 (xs.take m) ≤ cntL_uint64 xs := by unfold cntL_uint64; rw [List.length_take]; omega
theorem cntL_uint64_len (xs : List Int) : xs.length ≤ cntL_uint64 xs := Nat.le_refl _
def cnt_Operand (x : S75) : Nat := 4
def cntL_Operand (xs : List S75) : Nat := (xs.map cnt_Operand).sum
def shp_Operand : Shp k75 := Shp.iso (Shp.pair (Shp.int .i64) (Shp.pair (Shp.int .i64) (Shp.pair (Shp.int .i64) (Shp.int .u64)))) (fun x : S75 => (x.f0, x.f1, x.f2, x.f3)) (fun y => ⟨y.1, y.2.1, y.2.2.1, y.2.2.2⟩) (fun _ => rfl)
theorem cnt_Operand_same {x y : S75} (h : shp_Operand.same x y) : cnt_Operand y = cnt_Operand x := rfl
theorem cntL_Operand_same {xs ys : List S75} (h : sameL shp_Operand.same xs ys) : cntL_Operand ys = cntL_Operand xs := sameL_sum h (fun _ _ h => cnt_Operand_same h)
theorem cntL_Operand_take (xs : List S75) (m : Nat) (h : m < xs.length) : cntL_Operand (xs.take (m + 1)) = cntL_Operand (xs.take m) + cnt_Operand (xs.getD m z75) := sum_take_succ _ _ xs m h
theorem cntL_Operand_len (xs : List S75) : xs.length ≤ cntL_Operand xs := len_le_sum xs (fun x => by unfold cnt_Operand; omega)
theorem cntL_Operand_le (xs : List S75) (m : Nat) : cntL_Operand (xs.take m) ≤ cntL_Operand xs := sum_take_le _ xs m
def cnt_Instr (x : S66) : Nat := 6 + cntL_Operand x.f6 + cntL_int64 x.f7 + cntL_uint64 x.f8
def cntL_Instr (xs : List S66) : Nat := (xs.map cnt_Instr).sum
def shp_Instr : Shp k66 := Shp.iso (Shp.pair (Shp.int .i64) (Shp.pair (Shp.int .i64) (Shp.pair (Shp.int .i64) (Shp.pair (Shp.int .i64) (Shp.pair (Shp.int .i64) (Shp.pair (Shp.int .i64) (Shp.pair (Shp.slice 75 shp_Operand) (Shp.pair (Shp.slice 2 (Shp.int .i64)) (Shp.slice 73 (Shp.int .u64)))))))))) (fun x : S66 => (x.f0, x.f1, x.f2, x.f3, x.f4, x.f5, x.f6, x.f7, x.f8)) (fun y => ⟨y.1, y.2.1, y.2.2.1, y.2.2.2.1, y.2.2.2.2.1, y.2.2.2.2.2.1, y.2.2.2.2.2.2.1, y.2.2.2.2.2.2.2.1, y.2.2.2.2.2.2.2.2⟩) (fun _ => rfl)
theorem cnt_Instr_same {x y : S66} (h : shp_Instr.same x y) : cnt_Instr y = cnt_Instr x := by
  have e6 : cntL_Operand y.f6 = cntL_Operand x.f6 := cntL_Operand_same h.2.2.2.2.2.2.1
  have e7 : cntL_int64 y.f7 = cntL_int64 x.f7 := cntL_int64_same h.2.2.2.2.2.2.2.1
  have e8 : cntL_uint64 y.f8 = cntL_uint64 x.f8 := cntL_uint64_same h.2.2.2.2.2.2.2.2
  unfold cnt_Instr
  rw [e6, e7, e8]
theorem cntL_Instr_same {xs ys : List S66} (h : sameL shp_Instr.same xs ys) : cntL_Instr ys = cntL_Instr xs := sameL_sum h (fun _ _ h => cnt_Instr_same h)
theorem cntL_Instr_take (xs : List S66) (m : Nat) (h : m < xs.length) : cntL_Instr (xs.take (m + 1)) = cntL_Instr (xs.take m) + cnt_Instr (xs.getD m z66) := sum_take_succ _ _ xs m h
theorem cntL_Instr_len (xs : List S66) : xs.length ≤ cntL_Instr xs := len_le_sum xs (fun x => by unfold cnt_Instr; omega)
theorem cntL_Instr_le (xs : List S66) (m : Nat) : cntL_Instr (xs.take m) ≤ cntL_Instr xs := sum_take_le _ xs m
def cnt_Block (x : S62) : Nat := cntL_Instr x.f0
def cntL_Block (xs : List S62) : Nat := (xs.map cnt_Block).sum
def shp_Block : Shp k62 := Shp.iso (Shp.slice 66 shp_Instr) (fun x : S62 => x.f0) (fun y => ⟨y⟩) (fun _ => rfl)
theorem cnt_Block_same {x y : S62} (h : shp_Block.same x y) : cnt_Block y = cnt_Block x := by
  have e0 : cntL_Instr y.f0 = cntL_Instr x.f0 := cntL_Instr_same h
  unfold cnt_Block
  rw [e0]
theorem cntL_Block_same {xs ys : List S62} (h : sameL shp_Block.same xs ys) : cntL_Block ys = cntL_Block xs := sameL_sum h (fun _ _ h => cnt_Block_same h)
theorem cntL_Block_take (xs : List S62) (m : Nat) (h : m < xs.length) : cntL_Block (xs.take (m + 1)) = cntL_Block (xs.take m) + cnt_Block (xs.getD m z62) := sum_take_succ _ _ xs m h
theorem cntL_Block_le (xs : List S62) (m : Nat) : cntL_Block (xs.take m) ≤ cntL_Block xs := sum_take_le _ xs m
theorem laws_markInt64S.elem {w : World} {base g n cap : Nat} {ok : Nat → Prop} {xs : List Int} (hR : (Kd.int .i64).R 2 w base ok (.slice (some ⟨g, 0, none⟩) n cap) xs) (m : Nat) (h1 : m < n) : ∃ y0, w.cell? ⟨g, m, none⟩ = some (.int .i64 y0) := by
  obtain ⟨e, _⟩ := Kd.R_celln 0 hR (m : Int) (by omega) (by omega)
  exact ⟨_, by simpa using e⟩
set_option maxHeartbeats 4000000 in
set_option maxRecDepth 100000 in
theorem laws_markInt64S.sim (v : Value) (xs : List Int) (a1 : Int) (w : World) (base : Nat) (ok : Nat → Prop) (h0 : 0 ≤ a1) (hb : a1 + cntL_int64 xs ≤ 1000000000000) (hR : (Kd.int .i64).R 2 w base ok v xs) :
    Calls Try.prog 21 #[v, .int .i64 a1] w fun e w' => e = .returned (.int .i64 (a1 + cntL_int64 xs)) ∧ Sim w w' (fun k => ok k ∧ base ≤ k) := by
  have HR := Aside0.mk (Kd.R_based hR)
  clear hR
  obtain ⟨A, c, rfl⟩ := Kd.R_slice HR.out
  have hl0 : xs.length ≤ 1000000000000 := by have := cntL_int64_len xs; omega
  have HB := Aside0.mk hb
  clear hb
  go_enter Try.func21, Try.ntmps21
  go_wp2
  go_loopw [1, 5] (fun v1 v5 w' => ∃ m : Nat, m ≤ xs.length ∧ v1 = .int .i64 (a1 + cntL_int64 (xs.take m)) ∧ v5 = .int .i64 (m : Int) ∧ Aside0 (Sim w w' (fun k => ok k ∧ base ≤ k))) (fun _ v5 _ => xs.length - (intOf v5).toNat)
  case atStart => exact ⟨0, Nat.zero_le _, by simp [cntL_int64], rfl, ⟨Sim.refl _ _⟩⟩
  case round =>
    obtain ⟨m, hm, rfl, rfl, HS⟩ := hrel
    have hle := cntL_int64_le xs m
    by_cases hlt : m < xs.length
    · have htk := cntL_int64_take xs m hlt
      have hle1 := cntL_int64_le xs (m + 1)
      obtain ⟨g, cap, eg, _, _, gc⟩ := Kd.R_form HR.out (by omega)
      injection eg with ea _ ec
      subst ea
      subst ec
      have GS : ok g ∧ base ≤ g := HR.out.1 g rfl
      have HG := Aside0.mk GS
      clear GS
      have GC := Aside0.mk gc
      clear gc
      obtain ⟨y0, c0⟩ := laws_markInt64S.elem HR.out m hlt
      obtain ⟨X, hX⟩ : ∃ X : Int, X = a1 + cntL_int64 (xs.take m) := ⟨_, rfl⟩
      rw [← hX]
      have hbb := HB.out
      have hX0 : 0 ≤ X := by omega
      have hX1 : X + 1 ≤ 1000000000000 := by omega
      have C0 := Aside0.mk c0
      clear c0
      have hfin : a1 + cntL_int64 (xs.take (m + 1)) = X + 1 := by omega
      have FIN := Aside0.mk hfin
      have HX := Aside0.mk hX
      clear hfin hX htk hle hle1 hbb
      obtain ⟨d0, e0⟩ := HS.out.scal_int GC.out C0.out
      have z0 := HS.out.frozen (j := m) GC.out
      go_wp2
      go_roundw
      case measure => simp [intOf]; omega
      case rel => exact ⟨m + 1, by omega, by (first | (rw [FIN.out]; done) | (rw [FIN.out]; go_num)), by go_num, ⟨by repeat (first | exact HS.out | (with_reducible refine Sim.putw ?_ GC.out (by first | exact C0.out) HG.out))⟩⟩
    · have : m = xs.length := by omega
      subst this
      rw [List.take_length]
      go_wp2
      go_ret
      exact ⟨rfl, HS.out⟩
theorem laws_markUint64S.elem {w : World} {base g n cap : Nat} {ok : Nat → Prop} {xs : List Int} (hR : (Kd.int .u64).R 73 w base ok (.slice (some ⟨g, 0, none⟩) n cap) xs) (m : Nat) (h1 : m < n) : ∃ y0, w.cell? ⟨g, m, none⟩ = some (.int .u64 y0) := by
  obtain ⟨e, _⟩ := Kd.R_celln 0 hR (m : Int) (by omega) (by omega)
  exact ⟨_, by simpa using e⟩
set_option maxHeartbeats 4000000 in
set_option maxRecDepth 100000 in
theorem laws_markUint64S.sim (v : Value) (xs : List Int) (a1 : Int) (w : World) (base : Nat) (ok : Nat → Prop) (h0 : 0 ≤ a1) (hb : a1 + cntL_uint64 xs ≤ 1000000000000) (hR : (Kd.int .u64).R 73 w base ok v xs) :
    Calls Try.prog 85 #[v, .int .i64 a1] w fun e w' => e = .returned (.int .i64 (a1 + cntL_uint64 xs)) ∧ Sim w w' (fun k => ok k ∧ base ≤ k) := by
  have HR := Aside0.mk (Kd.R_based hR)
  clear hR
  obtain ⟨A, c, rfl⟩ := Kd.R_slice HR.out
  have hl0 : xs.length ≤ 1000000000000 := by have := cntL_uint64_len xs; omega
  have HB := Aside0.mk hb
  clear hb
  go_enter Try.func85, Try.ntmps85
  go_wp2
  go_loopw [1, 5] (fun v1 v5 w' => ∃ m : Nat, m ≤ xs.length ∧ v1 = .int .i64 (a1 + cntL_uint64 (xs.take m)) ∧ v5 = .int .i64 (m : Int) ∧ Aside0 (Sim w w' (fun k => ok k ∧ base ≤ k))) (fun _ v5 _ => xs.length - (intOf v5).toNat)
  case atStart => exact ⟨0, Nat.zero_le _, by simp [cntL_uint64], rfl, ⟨Sim.refl _ _⟩⟩
  case round =>
    obtain ⟨m, hm, rfl, rfl, HS⟩ := hrel
    have hle := cntL_uint64_le xs m
    by_cases hlt : m < xs.length
    · have htk := cntL_uint64_take xs m hlt
      have hle1 := cntL_uint64_le xs (m + 1)
      obtain ⟨g, cap, eg, _, _, gc⟩ := Kd.R_form HR.out (by omega)
      injection eg with ea _ ec
      subst ea
      subst ec
      have GS : ok g ∧ base ≤ g := HR.out.1 g rfl
      have HG := Aside0.mk GS
      clear GS
      have GC := Aside0.mk gc
      clear gc
      obtain ⟨y0, c0⟩ := laws_markUint64S.elem HR.out m hlt
      obtain ⟨X, hX⟩ : ∃ X : Int, X = a1 + cntL_uint64 (xs.take m) := ⟨_, rfl⟩
      rw [← hX]
      have hbb := HB.out
      have hX0 : 0 ≤ X := by omega
      have hX1 : X + 1 ≤ 1000000000000 := by omega
      have C0 := Aside0.mk c0
      clear c0
      have hfin : a1 + cntL_uint64 (xs.take (m + 1)) = X + 1 := by omega
      have FIN := Aside0.mk hfin
      have HX := Aside0.mk hX
      clear hfin hX htk hle hle1 hbb
      obtain ⟨d0, e0⟩ := HS.out.scal_int GC.out C0.out
      have z0 := HS.out.frozen (j := m) GC.out
      go_wp2
      go_roundw
      case measure => simp [intOf]; omega
      case rel => exact ⟨m + 1, by omega, by (first | (rw [FIN.out]; done) | (rw [FIN.out]; go_num)), by go_num, ⟨by repeat (first | exact HS.out | (with_reducible refine Sim.putw ?_ GC.out (by first | exact C0.out) HG.out))⟩⟩
    · have : m = xs.length := by omega
      subst this
      rw [List.take_length]
      go_wp2
      go_ret
      exact ⟨rfl, HS.out⟩
theorem laws_markOperandS.elem {w : World} {base g n cap : Nat} {ok : Nat → Prop} {xs : List S75} (hR : k75.R 75 w base ok (.slice (some ⟨g, 0, none⟩) n cap) xs) (m : Nat) (h1 : m < n) : ∃ (x : S75), x = xs.getD m z75 ∧ w.cell? ⟨g, m * 4, none⟩ = some (.int .i64 x.f0) ∧ w.cell? ⟨g, m * 4 + 1, none⟩ = some (.int .i64 x.f1) ∧ w.cell? ⟨g, m * 4 + 2, none⟩ = some (.int .i64 x.f2) ∧ w.cell? ⟨g, m * 4 + 3, none⟩ = some (.int .u64 x.f3) := by
  obtain ⟨c, hl, hM, hc, _⟩ := Kd.R_elem hR z75 (m : Int) (by omega) (by omega)
  simp only [Int.toNat_natCast] at hM hc
  obtain rfl := k75_openM hM
  exact ⟨_, rfl, hc 0 _ rfl, hc 1 _ rfl, hc 2 _ rfl, hc 3 _ rfl⟩
set_option maxHeartbeats 4000000 in
set_option maxRecDepth 100000 in
theorem laws_markOperandS.sim (v : Value) (xs : List S75) (a1 : Int) (w : World) (base : Nat) (ok : Nat → Prop) (h0 : 0 ≤ a1) (hb : a1 + cntL_Operand xs ≤ 1000000000000) (hR : k75.R 75 w base ok v xs) :
    Calls Try.prog 84 #[v, .int .i64 a1] w fun e w' => e = .returned (.int .i64 (a1 + cntL_Operand xs)) ∧ Sim w w' (fun k => ok k ∧ base ≤ k) := by
  have HR := Aside0.mk (Kd.R_based hR)
  clear hR
  obtain ⟨A, c, rfl⟩ := Kd.R_slice HR.out
  have hl0 : xs.length ≤ 1000000000000 := by have := cntL_Operand_len xs; omega
  have HB := Aside0.mk hb
  clear hb
  go_enter Try.func84, Try.ntmps84
  go_wp2
  go_loopw [1, 5] (fun v1 v5 w' => ∃ m : Nat, m ≤ xs.length ∧ v1 = .int .i64 (a1 + cntL_Operand (xs.take m)) ∧ v5 = .int .i64 (m : Int) ∧ Aside0 (Sim w w' (fun k => ok k ∧ base ≤ k))) (fun _ v5 _ => xs.length - (intOf v5).toNat)
  case atStart => exact ⟨0, Nat.zero_le _, by simp [cntL_Operand], rfl, ⟨Sim.refl _ _⟩⟩
  case round =>
    obtain ⟨m, hm, rfl, rfl, HS⟩ := hrel
    have hle := cntL_Operand_le xs m
    by_cases hlt : m < xs.length
    · have htk := cntL_Operand_take xs m hlt
      have hle1 := cntL_Operand_le xs (m + 1)
      obtain ⟨g, cap, eg, _, _, gc⟩ := Kd.R_form HR.out (by omega)
      injection eg with ea _ ec
      subst ea
      subst ec
      have GS : ok g ∧ base ≤ g := HR.out.1 g rfl
      have HG := Aside0.mk GS
      clear GS
      have GC := Aside0.mk gc
      clear gc
      obtain ⟨x, hx, c0, c1, c2, c3⟩ := laws_markOperandS.elem HR.out m hlt
      rw [← hx] at htk
      have hcx : cnt_Operand x = 4 := rfl
      obtain ⟨X, hX⟩ : ∃ X : Int, X = a1 + cntL_Operand (xs.take m) := ⟨_, rfl⟩
      rw [← hX]
      have hbb := HB.out
      have hX0 : 0 ≤ X := by omega
      have hX1 : X + 4 ≤ 1000000000000 := by omega
      have C0 := Aside0.mk c0
      clear c0
      have C1 := Aside0.mk c1
      clear c1
      have C2 := Aside0.mk c2
      clear c2
      have C3 := Aside0.mk c3
      clear c3
      have hfin : a1 + cntL_Operand (xs.take (m + 1)) = X + 4 := by omega
      have FIN := Aside0.mk hfin
      have HX := Aside0.mk hX
      have HXX := Aside0.mk hx
      clear hx hcx
      clear hfin hX htk hle hle1 hbb
      obtain ⟨d0, e0⟩ := HS.out.scal_int GC.out C0.out
      have z0 := HS.out.frozen (j := m * 4) GC.out
      obtain ⟨d1, e1⟩ := HS.out.scal_int GC.out C1.out
      have z1 := HS.out.frozen (j := m * 4 + 1) GC.out
      obtain ⟨d2, e2⟩ := HS.out.scal_int GC.out C2.out
      have z2 := HS.out.frozen (j := m * 4 + 2) GC.out
      obtain ⟨d3, e3⟩ := HS.out.scal_int GC.out C3.out
      have z3 := HS.out.frozen (j := m * 4 + 3) GC.out
      go_wp2
      go_roundw
      case measure => simp [intOf]; omega
      case rel => exact ⟨m + 1, by omega, by (first | (rw [FIN.out]; done) | (rw [FIN.out]; go_num)), by go_num, ⟨by repeat (first | exact HS.out | (with_reducible refine Sim.putw ?_ GC.out (by first | exact C0.out | exact C1.out | exact C2.out | exact C3.out) HG.out))⟩⟩
    · have : m = xs.length := by omega
      subst this
      rw [List.take_length]
      go_wp2
      go_ret
      exact ⟨rfl, HS.out⟩
theorem laws_markInstrS.elem {w : World} {base g n cap : Nat} {ok : Nat → Prop} {xs : List S66} (hR : k66.R 66 w base ok (.slice (some ⟨g, 0, none⟩) n cap) xs) (m : Nat) (h1 : m < n) : ∃ (x : S66) (v6 : Value) (v7 : Value) (v8 : Value), x = xs.getD m z66 ∧ w.cell? ⟨g, m * 9, none⟩ = some (.int .i64 x.f0) ∧ w.cell? ⟨g, m * 9 + 1, none⟩ = some (.int .i64 x.f1) ∧ w.cell? ⟨g, m * 9 + 2, none⟩ = some (.int .i64 x.f2) ∧ w.cell? ⟨g, m * 9 + 3, none⟩ = some (.int .i64 x.f3) ∧ w.cell? ⟨g, m * 9 + 4, none⟩ = some (.int .i64 x.f4) ∧ w.cell? ⟨g, m * 9 + 5, none⟩ = some (.int .i64 x.f5) ∧ w.cell? ⟨g, m * 9 + 6, none⟩ = some v6 ∧ w.cell? ⟨g, m * 9 + 7, none⟩ = some v7 ∧ w.cell? ⟨g, m * 9 + 8, none⟩ = some v8 ∧ k75.R 75 w base ok v6 x.f6 ∧ (Kd.int .i64).R 2 w base ok v7 x.f7 ∧ (Kd.int .u64).R 73 w base ok v8 x.f8 := by
  obtain ⟨c, hl, hM, hc, _⟩ := Kd.R_elem hR z66 (m : Int) (by omega) (by omega)
  simp only [Int.toNat_natCast] at hM hc
  obtain ⟨v6, v7, v8, rfl, r6, r7, r8⟩ := k66_openM hM
  exact ⟨_, v6, v7, v8, rfl, hc 0 _ rfl, hc 1 _ rfl, hc 2 _ rfl, hc 3 _ rfl, hc 4 _ rfl, hc 5 _ rfl, hc 6 _ rfl, hc 7 _ rfl, hc 8 _ rfl, Kd.R_mono r6 (fun _ hk => hk.1), Kd.R_mono r7 (fun _ hk => hk.1), Kd.R_mono r8 (fun _ hk => hk.1)⟩
set_option maxHeartbeats 4000000 in
set_option maxRecDepth 100000 in
theorem laws_markInstrS.sim (v : Value) (xs : List S66) (a1 : Int) (w : World) (base : Nat) (ok : Nat → Prop) (h0 : 0 ≤ a1) (hb : a1 + cntL_Instr xs ≤ 1000000000000) (hR : k66.R 66 w base ok v xs) :
    Calls Try.prog 72 #[v, .int .i64 a1] w fun e w' => e = .returned (.int .i64 (a1 + cntL_Instr xs)) ∧ Sim w w' (fun k => ok k ∧ base ≤ k) := by
  have HR := Aside0.mk (Kd.R_based hR)
  clear hR
  obtain ⟨A, c, rfl⟩ := Kd.R_slice HR.out
  have hl0 : xs.length ≤ 1000000000000 := by have := cntL_Instr_len xs; omega
  have HB := Aside0.mk hb
  clear hb
  go_enter Try.func72, Try.ntmps72
  go_wp2
  go_loopw [1, 5] (fun v1 v5 w' => ∃ m : Nat, m ≤ xs.length ∧ v1 = .int .i64 (a1 + cntL_Instr (xs.take m)) ∧ v5 = .int .i64 (m : Int) ∧ Aside0 (Sim w w' (fun k => ok k ∧ base ≤ k))) (fun _ v5 _ => xs.length - (intOf v5).toNat)
  case atStart => exact ⟨0, Nat.zero_le _, by simp [cntL_Instr], rfl, ⟨Sim.refl _ _⟩⟩
  case round =>
    obtain ⟨m, hm, rfl, rfl, HS⟩ := hrel
    have hle := cntL_Instr_le xs m
    by_cases hlt : m < xs.length
    · have htk := cntL_Instr_take xs m hlt
      have hle1 := cntL_Instr_le xs (m + 1)
      obtain ⟨g, cap, eg, _, _, gc⟩ := Kd.R_form HR.out (by omega)
      injection eg with ea _ ec
      subst ea
      subst ec
      have GS : ok g ∧ base ≤ g := HR.out.1 g rfl
      have HG := Aside0.mk GS
      clear GS
      have GC := Aside0.mk gc
      clear gc
      obtain ⟨x, v6, v7, v8, hx, c0, c1, c2, c3, c4, c5, c6, c7, c8, r6, r7, r8⟩ := laws_markInstrS.elem HR.out m hlt
      rw [← hx] at htk
      have hcx : cnt_Instr x = 6 + cntL_Operand x.f6 + cntL_int64 x.f7 + cntL_uint64 x.f8 := rfl
      obtain ⟨X, hX⟩ : ∃ X : Int, X = a1 + cntL_Instr (xs.take m) := ⟨_, rfl⟩
      rw [← hX]
      have hbb := HB.out
      have hX0 : 0 ≤ X := by omega
      have hX1 : X + 6 + (cntL_Operand x.f6 : Nat) + (cntL_int64 x.f7 : Nat) + (cntL_uint64 x.f8 : Nat) ≤ 1000000000000 := by omega
      obtain ⟨q6, hq6⟩ : ∃ q : Nat, q = cntL_Operand x.f6 := ⟨_, rfl⟩
      rw [← hq6] at hX1 hcx
      obtain ⟨q7, hq7⟩ : ∃ q : Nat, q = cntL_int64 x.f7 := ⟨_, rfl⟩
      rw [← hq7] at hX1 hcx
      obtain ⟨q8, hq8⟩ : ∃ q : Nat, q = cntL_uint64 x.f8 := ⟨_, rfl⟩
      rw [← hq8] at hX1 hcx
      have R6 := Aside0.mk r6
      clear r6
      have R7 := Aside0.mk r7
      clear r7
      have R8 := Aside0.mk r8
      clear r8
      have C0 := Aside0.mk c0
      clear c0
      have C1 := Aside0.mk c1
      clear c1
      have C2 := Aside0.mk c2
      clear c2
      have C3 := Aside0.mk c3
      clear c3
      have C4 := Aside0.mk c4
      clear c4
      have C5 := Aside0.mk c5
      clear c5
      have C6 := Aside0.mk c6
      clear c6
      have C7 := Aside0.mk c7
      clear c7
      have C8 := Aside0.mk c8
      clear c8
      have hfin : a1 + cntL_Instr (xs.take (m + 1)) = X + 6 + (q6 : Nat) + (q7 : Nat) + (q8 : Nat) := by omega
      have FIN := Aside0.mk hfin
      have HX := Aside0.mk hX
      have HXX := Aside0.mk hx
      clear hx hcx
      have HQ6 := Aside0.mk hq6
      clear hq6
      have HQ7 := Aside0.mk hq7
      clear hq7
      have HQ8 := Aside0.mk hq8
      clear hq8
      clear hfin hX htk hle hle1 hbb
      obtain ⟨d0, e0⟩ := HS.out.scal_int GC.out C0.out
      have z0 := HS.out.frozen (j := m * 9) GC.out
      obtain ⟨d1, e1⟩ := HS.out.scal_int GC.out C1.out
      have z1 := HS.out.frozen (j := m * 9 + 1) GC.out
      obtain ⟨d2, e2⟩ := HS.out.scal_int GC.out C2.out
      have z2 := HS.out.frozen (j := m * 9 + 2) GC.out
      obtain ⟨d3, e3⟩ := HS.out.scal_int GC.out C3.out
      have z3 := HS.out.frozen (j := m * 9 + 3) GC.out
      obtain ⟨d4, e4⟩ := HS.out.scal_int GC.out C4.out
      have z4 := HS.out.frozen (j := m * 9 + 4) GC.out
      obtain ⟨d5, e5⟩ := HS.out.scal_int GC.out C5.out
      have z5 := HS.out.frozen (j := m * 9 + 5) GC.out
      obtain ⟨A6, n6, k6, s6⟩ := Kd.R_slice' R6.out
      have e6 := HS.out.slc GC.out (C6.out.trans (congrArg some s6))
      have S6 := Aside0.mk s6
      clear s6
      go_wp2_with (first | (go_at_call 84; refine calls_at (fun W => Sim w W (fun k => ok k ∧ base ≤ k)) ?hs_6 ?_; (case hs_6 => repeat (first | exact HS.out | (with_reducible refine Sim.putw ?_ GC.out (by first | exact C0.out | exact C0.out | exact C1.out | exact C2.out | exact C3.out | exact C4.out | exact C5.out | exact C6.out | exact C7.out | exact C8.out) HG.out))); intro W6 hs6; obtain ⟨l6, P6, L6⟩ := Shp.R shp_Operand hs6 R6.out; rw [S6.out] at P6; have hl6 := cntL_Operand_same L6; have hq6 := HQ6.out; refine (laws_markOperandS.sim _ l6 _ W6 base _ ?pa_6 ?pb_6 P6).mono ?_; (case pa_6 => omega); (case pb_6 => omega); rintro e w6 ⟨rfl, h6⟩; have HS6 := Aside0.mk (hs6.trans (h6.mono (fun _ hk => ⟨hk.1.1, hk.2⟩))); rw [hl6, ← hq6]; clear hs6 h6 hl6 hq6 P6 L6; obtain ⟨A7, n7, k7, s7⟩ := Kd.R_slice' R7.out; have e7 := HS6.out.slc GC.out (C7.out.trans (congrArg some s7)); have S7 := Aside0.mk s7; clear s7) | (go_at_call 21; refine calls_at (fun W => Sim w W (fun k => ok k ∧ base ≤ k)) ?hs_7 ?_; (case hs_7 => repeat (first | exact HS6.out | (with_reducible refine Sim.putw ?_ GC.out (by first | exact C0.out | exact C0.out | exact C1.out | exact C2.out | exact C3.out | exact C4.out | exact C5.out | exact C6.out | exact C7.out | exact C8.out) HG.out))); intro W7 hs7; obtain ⟨l7, P7, L7⟩ := Shp.R (Shp.int .i64) hs7 R7.out; rw [S7.out] at P7; have hl7 := cntL_int64_same L7; have hq7 := HQ7.out; refine (laws_markInt64S.sim _ l7 _ W7 base _ ?pa_7 ?pb_7 P7).mono ?_; (case pa_7 => omega); (case pb_7 => omega); rintro e w7 ⟨rfl, h7⟩; have HS7 := Aside0.mk (hs7.trans (h7.mono (fun _ hk => ⟨hk.1.1, hk.2⟩))); rw [hl7, ← hq7]; clear hs7 h7 hl7 hq7 P7 L7; obtain ⟨A8, n8, k8, s8⟩ := Kd.R_slice' R8.out; have e8 := HS7.out.slc GC.out (C8.out.trans (congrArg some s8)); have S8 := Aside0.mk s8; clear s8) | (go_at_call 85; refine calls_at (fun W => Sim w W (fun k => ok k ∧ base ≤ k)) ?hs_8 ?_; (case hs_8 => repeat (first | exact HS7.out | (with_reducible refine Sim.putw ?_ GC.out (by first | exact C0.out | exact C0.out | exact C1.out | exact C2.out | exact C3.out | exact C4.out | exact C5.out | exact C6.out | exact C7.out | exact C8.out) HG.out))); intro W8 hs8; obtain ⟨l8, P8, L8⟩ := Shp.R (Shp.int .u64) hs8 R8.out; rw [S8.out] at P8; have hl8 := cntL_uint64_same L8; have hq8 := HQ8.out; refine (laws_markUint64S.sim _ l8 _ W8 base _ ?pa_8 ?pb_8 P8).mono ?_; (case pa_8 => omega); (case pb_8 => omega); rintro e w8 ⟨rfl, h8⟩; have HS8 := Aside0.mk (hs8.trans (h8.mono (fun _ hk => ⟨hk.1.1, hk.2⟩))); rw [hl8, ← hq8]; clear hs8 h8 hl8 hq8 P8 L8))
      go_roundw
      case measure => simp [intOf]; omega
      case rel => exact ⟨m + 1, by omega, by (first | (rw [FIN.out]; done) | (rw [FIN.out]; go_num)), by go_num, ⟨HS8.out⟩⟩
    · have : m = xs.length := by omega
      subst this
      rw [List.take_length]
      go_wp2
      go_ret
      exact ⟨rfl, HS.out⟩
theorem laws_markBlockS.elem {w : World} {base g n cap : Nat} {ok : Nat → Prop} {xs : List S62} (hR : k62.R 62 w base ok (.slice (some ⟨g, 0, none⟩) n cap) xs) (m : Nat) (h1 : m < n) : ∃ (x : S62) (v0 : Value), x = xs.getD m z62 ∧ w.cell? ⟨g, m, none⟩ = some v0 ∧ k66.R 66 w base ok v0 x.f0 := by
  obtain ⟨c, hl, hM, hc, _⟩ := Kd.R_elem hR z62 (m : Int) (by omega) (by omega)
  simp only [Int.toNat_natCast] at hM hc
  obtain ⟨v0, rfl, r0⟩ := k62_openM hM
  exact ⟨_, v0, rfl, by simpa [show k62.sz = 1 from rfl] using hc 0 _ rfl, Kd.R_mono r0 (fun _ hk => hk.1)⟩
set_option maxHeartbeats 4000000 in
set_option maxRecDepth 100000 in
theorem laws_markBlockS.sim (v : Value) (xs : List S62) (a1 : Int) (w : World) (base : Nat) (ok : Nat → Prop) (h0 : 0 ≤ a1) (hb : a1 + cntL_Block xs ≤ 1000000000000) (hl0 : xs.length ≤ 1000000000000) (hR : k62.R 62 w base ok v xs) :
    Calls Try.prog 52 #[v, .int .i64 a1] w fun e w' => e = .returned (.int .i64 (a1 + cntL_Block xs)) ∧ Sim w w' (fun k => ok k ∧ base ≤ k) := by
  have HR := Aside0.mk (Kd.R_based hR)
  clear hR
  obtain ⟨A, c, rfl⟩ := Kd.R_slice HR.out
  have HB := Aside0.mk hb
  clear hb
  go_enter Try.func52, Try.ntmps52
  go_wp2
  go_loopw [1, 5] (fun v1 v5 w' => ∃ m : Nat, m ≤ xs.length ∧ v1 = .int .i64 (a1 + cntL_Block (xs.take m)) ∧ v5 = .int .i64 (m : Int) ∧ Aside0 (Sim w w' (fun k => ok k ∧ base ≤ k))) (fun _ v5 _ => xs.length - (intOf v5).toNat)
  case atStart => exact ⟨0, Nat.zero_le _, by simp [cntL_Block], rfl, ⟨Sim.refl _ _⟩⟩
  case round =>
    obtain ⟨m, hm, rfl, rfl, HS⟩ := hrel
    have hle := cntL_Block_le xs m
    by_cases hlt : m < xs.length
    · have htk := cntL_Block_take xs m hlt
      have hle1 := cntL_Block_le xs (m + 1)
      obtain ⟨g, cap, eg, _, _, gc⟩ := Kd.R_form HR.out (by omega)
      injection eg with ea _ ec
      subst ea
      subst ec
      have GS : ok g ∧ base ≤ g := HR.out.1 g rfl
      have HG := Aside0.mk GS
      clear GS
      have GC := Aside0.mk gc
      clear gc
      obtain ⟨x, v0, hx, c0, r0⟩ := laws_markBlockS.elem HR.out m hlt
      rw [← hx] at htk
      have hcx : cnt_Block x = cntL_Instr x.f0 := rfl
      obtain ⟨X, hX⟩ : ∃ X : Int, X = a1 + cntL_Block (xs.take m) := ⟨_, rfl⟩
      rw [← hX]
      have hbb := HB.out
      have hX0 : 0 ≤ X := by omega
      have hX1 : X + (cntL_Instr x.f0 : Nat) ≤ 1000000000000 := by omega
      obtain ⟨q0, hq0⟩ : ∃ q : Nat, q = cntL_Instr x.f0 := ⟨_, rfl⟩
      rw [← hq0] at hX1 hcx
      have R0 := Aside0.mk r0
      clear r0
      have C0 := Aside0.mk c0
      clear c0
      have hfin : a1 + cntL_Block (xs.take (m + 1)) = X + (q0 : Nat) := by omega
      have FIN := Aside0.mk hfin
      have HX := Aside0.mk hX
      have HXX := Aside0.mk hx
      clear hx hcx
      have HQ0 := Aside0.mk hq0
      clear hq0
      clear hfin hX htk hle hle1 hbb
      obtain ⟨A0, n0, k0, s0⟩ := Kd.R_slice' R0.out
      have e0 := HS.out.slc GC.out (C0.out.trans (congrArg some s0))
      have S0 := Aside0.mk s0
      clear s0
      go_wp2_with (first | (go_at_call 72; refine calls_at (fun W => Sim w W (fun k => ok k ∧ base ≤ k)) ?hs_0 ?_; (case hs_0 => repeat (first | exact HS.out | (with_reducible refine Sim.putw ?_ GC.out (by first | exact C0.out | exact C0.out) HG.out))); intro W0 hs0; obtain ⟨l0, P0, L0⟩ := Shp.R shp_Instr hs0 R0.out; rw [S0.out] at P0; have hl0 := cntL_Instr_same L0; have hq0 := HQ0.out; refine (laws_markInstrS.sim _ l0 _ W0 base _ ?pa_0 ?pb_0 P0).mono ?_; (case pa_0 => omega); (case pb_0 => omega); rintro e w0 ⟨rfl, h0⟩; have HS0 := Aside0.mk (hs0.trans (h0.mono (fun _ hk => ⟨hk.1.1, hk.2⟩))); rw [hl0, ← hq0]; clear hs0 h0 hl0 hq0 P0 L0))
      go_roundw
      case measure => simp [intOf]; omega
      case rel => exact ⟨m + 1, by omega, by (first | (rw [FIN.out]; done) | (rw [FIN.out]; go_num)), by go_num, ⟨HS0.out⟩⟩
    · have : m = xs.length := by omega
      subst this
      rw [List.take_length]
      go_wp2
      go_ret
      exact ⟨rfl, HS.out⟩
end Go.Proofs.Ytoedcnhgobbnfaa.All

namespace Go.Proofs.Ytoedcnhgobbnfaa.All
open Go.RowKit Go.Proofs.YtoedcnhgobbnfaaW.PrintWords Go.Proofs.YtoedcnhgobbnfaaW.PrintLast Go.Proofs.YtoedcnhgobbnfaaW.PrintMore
attribute [local go_sem] max2_int min2_int max_two min_two max_three min_three max_four min_four   -- for this text's walks alone
set_option linter.unusedVariables false
set_option linter.unusedSimpArgs false

/-! ### laws_markFunc: function 20 -/
def laws_markFunc.f (a0_0 : ByteArray) (a0_1 : Int) (l0_2 : List Int) (a0_3 : Int) (l0_4 : List (S62)) (a1 : Int) : Option Int := if 0 ≤ a1 then (if a1 + cntL_int64 l0_2 + cntL_Block l0_4 + l0_4.length ≤ 1000000000000 then some (a1 + cntL_int64 l0_2 + cntL_Block l0_4) else none) else none
set_option maxHeartbeats 4000000 in
set_option maxRecDepth 100000 in
theorem laws_markFunc.calls (a0_0 : ByteArray) (a0_1 : Int) (P0_2_ : Nat → Prop) (u9000_ : Value) (l0_2 : List Int) (a0_3 : Int) (P0_4_ : Nat → Prop) (u9001_ : Value) (l0_4 : List (S62)) (a1 : Int) (r : Int) (w0 w : World) (hB : Below w0.heap.size w0 w) (ho0_2 : Kd.R (Kd.int .i64) 2 w w0.heap.size P0_2_ u9000_ l0_2) (ho0_4 : Kd.R k62 62 w w0.heap.size P0_4_ u9001_ l0_4) (h : laws_markFunc.f a0_0 a0_1 l0_2 a0_3 l0_4 a1 = some r) :
    Calls Try.prog 20 #[.agg #[.string a0_0, .int .i64 a0_1, u9000_, .int .i64 a0_3, u9001_], .int .i64 a1] w fun e w' => e = .returned (.int .i64 r) ∧ Below w0.heap.size w0 w' ∧ Kept w w' (fun k_ => P0_2_ k_ ∨ P0_4_ k_) := by
  unfold laws_markFunc.f at h
  by_cases h0 : 0 ≤ a1
  · rw [if_pos h0] at h
    by_cases h1 : a1 + cntL_int64 l0_2 + cntL_Block l0_4 + l0_4.length ≤ 1000000000000
    · rw [if_pos h1] at h
      obtain rfl := Option.some.inj h
      clear h
      have HB := Aside0.mk hB
      have H2 := Aside0.mk ho0_2
      have H4 := Aside0.mk ho0_4
      have H1 := Aside0.mk h1
      obtain ⟨A2, c2, n2, rfl⟩ := Kd.R_slice' ho0_2
      obtain ⟨A4, c4, n4, rfl⟩ := Kd.R_slice' ho0_4
      clear hB ho0_2 ho0_4 h1
      have hu := Try.underlying30
      go_enter Try.func20, Try.ntmps20
      go_wp2_with (first | (go_at_call 21; refine calls_at (fun W => Below w.heap.size w W ∧ W.heap[w.heap.size]? = some (.cells #[.string a0_0, .int .i64 a0_1, .slice A2 c2 n2, .int .i64 a0_3, .slice A4 c4 n4] 30 (0, 0))) ?hs ?_; (case hs => exact ⟨below_alloc (Below.refl _ _) _, blk_new _ _⟩); rintro W1 ⟨hs1, hk1⟩; have r2 := Kd.R_below (Kd.R_old2 H2.out) hs1; refine (laws_markInt64S.sim _ l0_2 _ W1 w0.heap.size (fun k => P0_2_ k ∧ k < w.heap.size) ?pa ?pb r2).mono ?_; (case pa => exact h0); (case pb => have := H1.out; omega); rintro e w2 ⟨rfl, g1⟩; have hlt := blk_lt hk1; have HS1 := Aside0.mk hs1; have G1 := Aside0.mk g1; have K2 := Aside0.mk ((g1.out w.heap.size hlt (fun hk => absurd hk.1.2 (Nat.lt_irrefl _))).trans hk1); have d4 : w2.cell? ⟨w.heap.size, 4, none⟩ = some (.slice A4 c4 n4) := (blk_cell K2.out 4).trans rfl; clear hs1 g1 hk1 r2 hlt) | (go_at_call 52; obtain ⟨l4, r4, e4⟩ := Shp.R shp_Block G1.out (Kd.R_below H4.out HS1.out); refine (laws_markBlockS.sim _ l4 _ w2 w0.heap.size P0_4_ ?pc ?pd ?pe r4).mono ?_; (case pc => omega); (case pd => have := H1.out; have := cntL_Block_same e4; omega); (case pe => have := H1.out; have := e4.1; omega); rintro e w3 ⟨rfl, g3⟩; have G3 := Aside0.mk g3; have E4 := Aside0.mk (cntL_Block_same e4); clear g3 r4 e4))
      go_ret
      have hb1 : Below w0.heap.size w0 w2 := G1.out.below0 (below_then HB.out HB.out.size HS1.out) (fun k hk => hk.2)
      exact ⟨by rw [E4.out]; rfl, G3.out.below0 hb1 (fun k hk => hk.2), ((Kept.of_below HS1.out _).then_ G1.out.kept (fun k hk => .inl (.inl hk.1.1))).then_ G3.out.kept (fun k hk => .inl (.inr hk.1))⟩
    · rw [if_neg h1] at h; cases h
  · rw [if_neg h0] at h; cases h

end Go.Proofs.Ytoedcnhgobbnfaa.All

namespace Go.Proofs.Ytoedcnhgobbnfaa.All
open Go.RowKit Go.Proofs.YtoedcnhgobbnfaaW.PrintWords Go.Proofs.YtoedcnhgobbnfaaW.PrintLast Go.Proofs.YtoedcnhgobbnfaaW.PrintMore
attribute [local go_sem] max2_int min2_int max_two min_two max_three min_three max_four min_four   -- for this text's walks alone
set_option linter.unusedVariables false
set_option linter.unusedSimpArgs false

/-! ### laws_heldInt64S: function 22 -/
def laws_heldInt64S.l0 : Nat → List Int → Int → Int → Option (Int)
  | 0, _, _, _ => none
  | k + 1, x0, x1, x5 => if x5 < (x0.length : Int) then (if 0 ≤ x5 then (if (rd x0 x5) = x1 then (laws_heldInt64S.l0 k x0 (wrap64 (x1 + 1)) (wrap64 (x5 + 1))) else (some (-1))) else (none)) else (some x1)
def laws_heldInt64S.f (k : Nat) (l0 : List Int) (a1 : Int) : Option (Int) := laws_heldInt64S.l0 k l0 a1 0
set_option maxHeartbeats 8000000 in
set_option maxRecDepth 100000 in
theorem laws_heldInt64S.calls (k : Nat) (A0 : Option Addr) (c0 : Nat) (l0 : List Int) (a1 : Int) (r : Int) (w : World) (hr0 : Kd.C (Kd.int .i64) w A0 l0.length l0) (hc0 : l0.length ≤ c0) (h : laws_heldInt64S.f k l0 a1 = some r) :
    Calls Try.prog 22 #[.slice A0 l0.length c0, .int .i64 a1] w fun e w' => e = .returned (.int .i64 r) ∧ Drawn0 w w' := by
  have HR0 := Aside0.mk hr0
  have HC0 := Aside0.mk hc0
  clear hr0 hc0
  have H : (laws_heldInt64S.l0 k l0 a1 0) = some r := h
  clear h
  have H' := Aside0.mk H
  clear H
  go_enter Try.func22, Try.ntmps22
  go_wp2
  go_loopg [1, 5] k (fun kq v1 v5 w' => ∃ (x1_1 : Int) (x5_1 : Int), v1 = .int .i64 x1_1 ∧ v5 = .int .i64 x5_1 ∧ Aside0 (laws_heldInt64S.l0 kq l0 x1_1 x5_1 = some r) ∧ Aside0 (kq ≤ k) ∧ Drawn0 w w')
  case atStart => exact ⟨(a1), (0), (by first | rfl | (simp; done) | (simp [*]; done)), (by first | rfl | (simp; done) | (simp [*]; done)), H', ⟨Nat.le_refl _⟩, by repeat (first | exact Drawn0.refl _ | apply Drawn0.step)⟩
  case round =>
    clear H'
    try clear c2
    try clear p2
    obtain ⟨x1_1, x5_1, rfl, rfl, HA, HK1, ⟨m1, rfl⟩⟩ := hrel
    cases gk with
    | zero => exact absurd HA.out (by simp [laws_heldInt64S.l0])
    | succ k1 =>
      have H := HA.out
      clear HA
      simp only [laws_heldInt64S.l0] at H
      by_cases c3 : x5_1 < (l0.length : Int)
      · rw [if_pos c3] at H
        have c3b0 : decide (x5_1 < (l0.length : Int)) = true := decide_eq_true c3
        clear c3
        by_cases c4 : 0 ≤ x5_1
        · rw [if_pos c4] at H
          have c4b0 : decide (0 ≤ x5_1) = true := decide_eq_true c4
          clear c4
          by_cases c5 : (rd l0 x5_1) = x1_1
          · rw [if_pos c5] at H
            have c5b0 : ((rd l0 x5_1) == x1_1) = true := beq_iff_eq.mpr c5
            have c5b1 : ((rd l0 x5_1) != x1_1) = false := bne_eq_false_iff_eq.mpr c5
            clear c5
            have H' := Aside0.mk H
            clear H
            have p327 : 0 ≤ (x5_1 : Int) := of_decide_eq_true (by first | (with_reducible assumption) | assumption)
            have q327 : x5_1 < (l0.length : Int) := of_decide_eq_true (by first | (with_reducible assumption) | assumption)
            obtain ⟨ad327, e327, hx327_0⟩ := Kd.at_int HR0.out x5_1 p327 q327
            cases e327
            replace p327 := eq_true p327
            replace q327 := eq_true q327
            go_wp2
            go_roundg k1
            case measure => have := HK1.out; omega
            case rel => exact ⟨(wrap64 (x1_1 + 1)), (wrap64 (x5_1 + 1)), (by first | rfl | (simp; done) | (simp [*]; done)), (by first | rfl | (simp; done) | (simp [*]; done)), H', ⟨by have := HK1.out; omega⟩, by repeat (first | exact Drawn0.refl _ | apply Drawn0.step)⟩
          · rw [if_neg c5] at H
            have c5b0 : ((rd l0 x5_1) == x1_1) = false := beq_eq_false_iff_ne.mpr c5
            have c5b1 : ((rd l0 x5_1) != x1_1) = true := bne_iff_ne.mpr c5
            obtain rfl := Option.some.inj H
            have p327 : 0 ≤ (x5_1 : Int) := of_decide_eq_true (by first | (with_reducible assumption) | assumption)
            have q327 : x5_1 < (l0.length : Int) := of_decide_eq_true (by first | (with_reducible assumption) | assumption)
            obtain ⟨ad327, e327, hx327_0⟩ := Kd.at_int HR0.out x5_1 p327 q327
            cases e327
            replace p327 := eq_true p327
            replace q327 := eq_true q327
            go_wp2
            go_ret
            exact ⟨by first | rfl | (simp; done) | (simp [*]; done), by repeat (first | exact Drawn0.refl _ | apply Drawn0.step)⟩
        · rw [if_neg c4] at H
          exact absurd H (by simp)
      · rw [if_neg c3] at H
        have c3b0 : decide (x5_1 < (l0.length : Int)) = false := decide_eq_false c3
        clear c3
        obtain rfl := Option.some.inj H
        go_wp2
        go_ret
        exact ⟨by first | rfl | (simp; done) | (simp [*]; done), by repeat (first | exact Drawn0.refl _ | apply Drawn0.step)⟩

end Go.Proofs.Ytoedcnhgobbnfaa.All
