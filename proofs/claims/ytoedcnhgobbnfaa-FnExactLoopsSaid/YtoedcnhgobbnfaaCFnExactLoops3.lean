/- Part 3 of the proof of FnExactLoops: functions of the translation with what they return, and plain laws of these. Written by programs of this session over the kit's print, and by hand. -/
import Derived.Test.YtoedcnhgobbnfaaProg
import Derived.Test.YtoedcnhgobbnfaaCFnExactLoopsWApart
import Derived.Test.YtoedcnhgobbnfaaCFnExactLoopsWArr
import Derived.Test.YtoedcnhgobbnfaaCFnExactLoopsWFoot
import Derived.Test.YtoedcnhgobbnfaaCFnExactLoopsWGuard
import Derived.Test.YtoedcnhgobbnfaaCFnExactLoopsWInv
import Derived.Test.YtoedcnhgobbnfaaCFnExactLoopsWKept
import Derived.Test.YtoedcnhgobbnfaaCFnExactLoopsWLast
import Derived.Test.YtoedcnhgobbnfaaCFnExactLoopsWMore
import Derived.Test.YtoedcnhgobbnfaaCFnExactLoopsWN
import Derived.Test.YtoedcnhgobbnfaaCFnExactLoopsWNEv
import Derived.Test.YtoedcnhgobbnfaaCFnExactLoopsWQPut
import Derived.Test.YtoedcnhgobbnfaaCFnExactLoopsWRepsOne
import Derived.Test.YtoedcnhgobbnfaaCFnExactLoopsWShare
import Derived.Test.YtoedcnhgobbnfaaCFnExactLoopsWTab
import Derived.Test.YtoedcnhgobbnfaaCFnExactLoopsWWords
import Derived.Test.YtoedcnhgobbnfaaCFnExactLoopsWZeros
import Derived.Below
import Derived.Deep.Draws
import Derived.Deep.AppendLies
import Derived.Maps.AppendAt
import Derived.OwnWalk
import Derived.Laws.BytesArg
import Derived.Laws.MakeOwn
import Derived.Laws.OwnMore
import Derived.Deep.OwnRows
import Derived.Tactics
import Derived.Lib.ConvBytes
import Derived.Laws.Slices
import Derived.WalkKit
import Derived.KernelRfl
import Derived.RowKit3
import Derived.Deep.LoopGhost
import Derived.Deep.QuietTactic
import Derived.BigQuiet
import Derived.WideLaws
import Derived.Deep.DeepCutAuto
import Derived.Deep.CutBlock
import Derived.Deep.RegionHeld3
import Derived.Laws.Rows
import Derived.Lib.AppendStr
import Derived.ArgAppend
import Derived.Laws.IdiomCopy
import Derived.OrdersHeld
import Derived.Laws.BitsLemmas
import Derived.RowKit
import Derived.Maps.OwnSet
import Derived.Maps.OwnOps
import Derived.Deep.Slices
import Derived.ChangeArms
import Derived.ProofKit
import Derived.OpenShut
import Derived.ShutString
import Derived.ChangeOld
import Derived.SizedLaws
import Derived.Test.YtoedcnhgobbnfaaCFnExactLoops1
import Derived.Test.YtoedcnhgobbnfaaCFnExactLoops2
namespace Go.Proofs.Ytoedcnhgobbnfaa.All
open Go.RowKit Go.Proofs.YtoedcnhgobbnfaaW.PrintWords Go.Proofs.YtoedcnhgobbnfaaW.PrintLast Go.Proofs.YtoedcnhgobbnfaaW.PrintMore
attribute [local go_sem] max2_int min2_int max_two min_two max_three min_three max_four min_four   -- for this text's walks alone
set_option linter.unusedVariables false
set_option linter.unusedSimpArgs false

mutual
def spec_l4Reach.j0 : Nat → Int → Int → List Bool → Bool → List (List Int) → List (List Int) → Option (List Bool)
 | 0, _, _, _, _, _, _ => none
 | k + 1, x1, x2, x7, x29, x129000, x129001 => if x29 = true then (some x7) else (if 0 ≤ x1 then (if x1 < (x7.length : Int) then (spec_l4Reach.l0 k x2 (x7.set (x1 : Int).toNat true) (([x1] : List Int)) x129000 x129001) else (none)) else (none))
def spec_l4Reach.l0 : Nat → Int → List Bool → List Int → List (List Int) → List (List Int) → Option (List Bool)
 | 0, _, _, _, _, _ => none
 | k + 1, x2, x7, x8, x129000, x129001 => if (x8.length : Int) > 0 then (if 0 ≤ (wrap64 ((x8.length : Int) - 1)) then (if (wrap64 ((x8.length : Int) - 1)) < (x8.length : Int) then (if (wrap64 ((x8.length : Int) - 1)) ≤ (x8.length : Int) then (spec_l4Reach.l1 k x2 x7 (x8.take ((wrap64 ((x8.length : Int) - 1)) : Int).toNat) (rd x8 (wrap64 ((x8.length : Int) - 1))) 0 x129000 x129001) else (none)) else (none)) else (none)) else (some x7)
def spec_l4Reach.l1 : Nat → Int → List Bool → List Int → Int → Int → List (List Int) → List (List Int) → Option (List Bool)
 | 0, _, _, _, _, _, _, _ => none
 | k + 1, x2, x7, x8, x9, x10, x129000, x129001 => if 0 ≤ x9 then (if x9 < (x129000.length : Int) then (if x10 < ((rd_L4 x129000 x9).length : Int) then (if 0 ≤ x10 then (if (rd (rd_L4 x129000 x9) x10) = x2 then (spec_l4Reach.l1 k x2 x7 x8 x9 (wrap64 (x10 + 1)) x129000 x129001) else (if 0 ≤ (rd (rd_L4 x129000 x9) x10) then (if (rd (rd_L4 x129000 x9) x10) < (x7.length : Int) then (if (rdOf false x7 (rd (rd_L4 x129000 x9) x10) = true) then (spec_l4Reach.l1 k x2 x7 x8 x9 (wrap64 (x10 + 1)) x129000 x129001) else (if x8.length < 17592186044416 then (spec_l4Reach.l1 k x2 (x7.set ((rd (rd_L4 x129000 x9) x10) : Int).toNat true) (x8 ++ [rd (rd_L4 x129000 x9) x10]) x9 (wrap64 (x10 + 1)) x129000 x129001) else (none))) else (none)) else (none))) else (none)) else (spec_l4Reach.l0 k x2 x7 x8 x129000 x129001)) else (none)) else (none)
end
def spec_l4Reach.f (k : Nat) (l0_0 : List (List Int)) (l0_1 : List (List Int)) (a1 : Int) (a2 : Int) : Option (List Bool) := if 0 ≤ (l0_0.length : Int) then (if ((l0_0.length : Int) : Int).toNat ≤ 281474976710656 then ((some (List.replicate ((l0_0.length : Int) : Int).toNat false : List Bool)).bind fun y129 => (if a1 = a2 then (spec_l4Reach.j0 k a1 a2 y129 true l0_0 l0_1) else (if a1 < 0 then (spec_l4Reach.j0 k a1 a2 y129 true l0_0 l0_1) else (spec_l4Reach.j0 k a1 a2 y129 (decide (a1 ≥ (l0_0.length : Int))) l0_0 l0_1)))) else (none)) else (none)
set_option maxHeartbeats 8000000 in
set_option maxRecDepth 100000 in
theorem spec_l4Reach.calls (k : Nat) (A0_0 : Option Addr) (c0_0 : Nat) (l0_0 : List (List Int)) (A0_1 : Option Addr) (c0_1 : Nat) (l0_1 : List (List Int)) (a1 : Int) (a2 : Int) (r : List Bool) (w : World) (hr0_0 : Kd.C (Kd.slice 2 (Kd.int .i64)) w A0_0 l0_0.length l0_0) (hc0_0 : l0_0.length ≤ c0_0) (hr0_1 : Kd.C (Kd.slice 2 (Kd.int .i64)) w A0_1 l0_1.length l0_1) (hc0_1 : l0_1.length ≤ c0_1) (h : spec_l4Reach.f k l0_0 l0_1 a1 a2 = some r) :
 Calls Try.prog 46 #[.agg #[.slice A0_0 l0_0.length c0_0, .slice A0_1 l0_1.length c0_1], .int .i64 a1, .int .i64 a2] w fun e w' => ∃ v0_ : Value, e = .returned (v0_) ∧ Kd.R Kd.bool 4 w' w.heap.size (fun _ => True) v0_ r ∧ Below w.heap.size w w' := by
 have hu52 := Try.underlying52
 have HR0_0 := Aside0.mk hr0_0
 have HC0_0 := Aside0.mk hc0_0
 clear hr0_0 hc0_0
 have HR0_1 := Aside0.mk hr0_1
 have HC0_1 := Aside0.mk hc0_1
 clear hr0_1 hc0_1
 have HB := Aside0.mk (Below.refl w.heap.size w)
 have H : (if 0 ≤ (l0_0.length : Int) then (if ((l0_0.length : Int) : Int).toNat ≤ 281474976710656 then ((some (List.replicate ((l0_0.length : Int) : Int).toNat false : List Bool)).bind fun y129 => (if a1 = a2 then (spec_l4Reach.j0 k a1 a2 y129 true l0_0 l0_1) else (if a1 < 0 then (spec_l4Reach.j0 k a1 a2 y129 true l0_0 l0_1) else (spec_l4Reach.j0 k a1 a2 y129 (decide (a1 ≥ (l0_0.length : Int))) l0_0 l0_1)))) else (none)) else (none)) = some r := h
 clear h
 by_cases c4 : 0 ≤ (l0_0.length : Int)
 · rw [if_pos c4] at H
   have c4b0 := eq_true c4
   have c4b1 : decide (0 ≤ (l0_0.length : Int)) = true := decide_eq_true c4
   clear c4
   by_cases c5 : ((l0_0.length : Int) : Int).toNat ≤ 281474976710656
   · rw [if_pos c5] at H
     have c5b0 := eq_true c5
     have c5b1 : decide (((l0_0.length : Int) : Int).toNat ≤ 281474976710656) = true := decide_eq_true c5
     clear c5
     obtain ⟨y129, hy129⟩ : ∃ y_ : List Bool, y_ = (List.replicate ((l0_0.length : Int) : Int).toNat false) := ⟨_, rfl⟩
     replace H : (if a1 = a2 then (spec_l4Reach.j0 k a1 a2 y129 true l0_0 l0_1) else (if a1 < 0 then (spec_l4Reach.j0 k a1 a2 y129 true l0_0 l0_1) else (spec_l4Reach.j0 k a1 a2 y129 (decide (a1 ≥ (l0_0.length : Int))) l0_0 l0_1))) = some r := by first | (rw [hy129]; with_reducible exact H) | (have H2_ := (Option.bind_some _ _).symm.trans H; rw [hy129]; with_reducible exact H2_) | (have H2_ := (Option.bind_some _ _).symm.trans H; with_reducible exact H2_) | with_reducible exact H | (rw [hy129]; exact H) | exact H
     have Ny129 := Aside0.mk hy129
     clear hy129
     have HC6 := Aside0.mk H
     clear H
     go_enter Try.func46, Try.ntmps46
     go_upto_region 2 with (first | ((with_reducible refine gate_dst (N := 3) rfl ?_); (try (refine gate_guard (by rfl) ?_; dsimp only)); refine box_event ?hg (N := 3) ?hd (cs := #[.slice A0_0 l0_0.length c0_0, .slice A0_1 l0_1.length c0_1]) (t := 52) ?hr ?_; (case hd => rfl); (case hg => rfl); (case hr => first | (go_simp; done) | (go_simp; rfl)); intro gb128 hg w7 hbox hb; have n0_ := Aside0.mk (below_step bz hb); have n1_ := Aside0.mk (hbox); have n2_ := Aside0.mk ((by rw [hg]; exact (below_size bz) : w.heap.size ≤ gb128)); have n3_ := Aside0.mk ((by rw [hg]; exact (below_size bz) : w.heap.size ≤ gb128)); clear HB; have HB := n0_; have BK128 := n1_; have GW128 := n2_; have GE128 := n3_; clear n0_ n1_ n2_ n3_; clear hb hbox hg; have hcz8_0 : w7.cell? ⟨gb128, 0, none⟩ = some (.slice A0_0 l0_0.length c0_0) := (blk_cell BK128.out 0).trans rfl; have hcz8_1 : w7.cell? ⟨gb128, 1, none⟩ = some (.slice A0_1 l0_1.length c0_1) := (blk_cell BK128.out 1).trans rfl; have hfz8_0 := blk_frozen BK128.out 0; have hfz8_1 := blk_frozen BK128.out 1) | ((with_reducible refine gate_dst (N := 15) rfl ?_); (try (refine gate_guard (by rfl) ?_; dsimp only)); refine Kd.R_make Kd.bool _ 4 rfl (N := 15) rfl 54 _ _ rfl (l0_0.length : Int) rfl rfl Try.underlying54 (.bool false) 1 info4 rfl (by decide) (by omega) false (ok := fun _ => True) (okp := fun _ => True) rfl (fun _ hk => hk) trivial (of_decide_eq_true az) (Nat.le_trans (Nat.mul_le_mul_right _ (of_decide_eq_true az : (l0_0.length : Int).toNat ≤ 281474976710656)) (by omega)) (Below.refl _ _) (Nat.le_refl _) ?_; intro v130 w9 ho10 hb hg_ hnew_; clear hg_ hnew_; (first | rw [← Ny129.out] at ho10 | (simp only [Int.reduceToNat] at ho10; rw [← Ny129.out] at ho10)); have n0_ := Aside0.mk (Kd.R_lower ho10 (below_size bz)); have n1_ := Aside0.mk (blk_below (g := gb128) (o := .cells #[.slice A0_0 l0_0.length c0_0, .slice A0_1 l0_1.length c0_1] 52 (0, 0)) kz hb); have n2_ := Aside0.mk (below_step bz hb); clear BK128; clear HB; have HO131 := n0_; have BK128 := n1_; have HB := n2_; clear n0_ n1_ n2_; clear hb ho10))
     (try simp only [Act.put, sx1, sx2, sx3])
     go_cut [29] (fun v29 wc => ∃ (kq : Nat) (x29_5 : Bool), v29 = .bool x29_5 ∧ Aside0 (spec_l4Reach.j0 kq a1 a2 y129 x29_5 l0_0 l0_1 = some r) ∧ Aside0 (kq ≤ k) ∧ Aside0 (Kd.R Kd.bool 4 wc w.heap.size (fun _ => True) v130 y129) ∧ Aside0 (wc.heap[gb128]? = some (.cells #[(.slice A0_0 l0_0.length c0_0), (.slice A0_1 l0_1.length c0_1)] 52 (0, 0))) ∧ Aside0 (Below w.heap.size w wc))
     case first =>
      have H := HC6.out
      clear HC6
      by_cases c11 : a1 = a2
      · rw [if_pos c11] at H
        have c11b0 : (a1 == a2) = true := beq_iff_eq.mpr c11
        have c11b1 : (a1 != a2) = false := bne_eq_false_iff_eq.mpr c11
        clear c11
        (first | rw [c11b0] | (simp only [i64_w, i32_w]; rw [c11b0]) | skip)
        have H' := Aside0.mk H
        clear H
        go_wp2
        go_meet
        case rel => exact ⟨_, (true), sz_, H', ⟨by first | omega | exact Nat.le_refl _⟩, ⟨by (with_reducible repeat (first | apply Kd.R_alloc | apply Kd.R_drewN | apply Kd.R_drew)); exact HO131.out⟩, ⟨ kz⟩, ⟨ bz⟩⟩
      · rw [if_neg c11] at H
        have c11b0 : (a1 == a2) = false := beq_eq_false_iff_ne.mpr c11
        have c11b1 : (a1 != a2) = true := bne_iff_ne.mpr c11
        (first | rw [c11b0] | (simp only [i64_w, i32_w]; rw [c11b0]) | skip)
        by_cases c12 : a1 < 0
        · rw [if_pos c12] at H
          have c12b0 : decide (a1 < 0) = true := decide_eq_true c12
          clear c12
          have H' := Aside0.mk H
          clear H
          go_wp2
          go_meet
          case rel => exact ⟨_, (true), sz_, H', ⟨by first | omega | exact Nat.le_refl _⟩, ⟨by (with_reducible repeat (first | apply Kd.R_alloc | apply Kd.R_drewN | apply Kd.R_drew)); exact HO131.out⟩, ⟨ kz⟩, ⟨ bz⟩⟩
        · rw [if_neg c12] at H
          have c12b0 : decide (a1 < 0) = false := decide_eq_false c12
          clear c12
          have H' := Aside0.mk H
          clear H
          have hcz13_0 : w9.cell? ⟨gb128, 0, none⟩ = some (.slice A0_0 l0_0.length c0_0) := (blk_cell BK128.out 0).trans rfl
          have hcz13_1 : w9.cell? ⟨gb128, 1, none⟩ = some (.slice A0_1 l0_1.length c0_1) := (blk_cell BK128.out 1).trans rfl
          have hfz13_0 := blk_frozen BK128.out 0
          have hfz13_1 := blk_frozen BK128.out 1
          go_wp2
          go_meet
          case rel => exact ⟨_, (decide (a1 ≥ (l0_0.length : Int))), sz_, H', ⟨by first | omega | exact Nat.le_refl _⟩, ⟨by (with_reducible repeat (first | apply Kd.R_alloc | apply Kd.R_drewN | apply Kd.R_drew)); exact HO131.out⟩, ⟨ kz⟩, ⟨ bz⟩⟩
     case rest =>
      clear HC6
      try clear c1
      try clear p2
      try clear c4
      try clear c4b0
      try clear c4b1
      try clear c5
      try clear c5b0
      try clear c5b1
      try clear c11
      try clear c11b0
      try clear c11b1
      try clear c12
      try clear c12b0
      try clear hcz13_0
      try clear hcz13_1
      try clear hcz8_0
      try clear hcz8_1
      try clear hfz13_0
      try clear hfz13_1
      try clear hfz8_0
      try clear hfz8_1
      obtain ⟨kq, x29_5, rfl, HA, HJ5, HO_7, BK128, HB⟩ := hcut
      cases kq with
      | zero => exact absurd HA.out (by simp [spec_l4Reach.j0])
      | succ kj5 =>
       have H := HA.out
       clear HA
       simp only [spec_l4Reach.j0] at H
       by_cases c14 : x29_5 = true
       · subst c14
         have H1 : (some y129) = some r := by rw [if_pos rfl] at H; exact H
         clear H
         have H := H1
         clear H1
         obtain rfl := Option.some.inj H
         go_wp2
         go_ret
         exact ⟨_, by first | rfl | (simp [errW_none, errW_some] <;> rfl) | (simp [*, errW_none, errW_some] <;> rfl), by (with_reducible repeat (first | apply Kd.R_alloc | apply Kd.R_drewN | apply Kd.R_drew)); exact HO_7.out, bz⟩
       · replace c14 := Bool.eq_false_iff.mpr c14
         subst c14
         have H1 : (if 0 ≤ a1 then (if a1 < (y129.length : Int) then (spec_l4Reach.l0 kj5 a2 (y129.set (a1 : Int).toNat true) (([a1] : List Int)) l0_0 l0_1) else (none)) else (none)) = some r := by rw [if_neg (show ¬ (false = true) by decide)] at H; exact H
         clear H
         have H := H1
         clear H1
         by_cases c15 : 0 ≤ a1
         · rw [if_pos c15] at H
           have c15b0 : decide (0 ≤ a1) = true := decide_eq_true c15
           clear c15
           by_cases c16 : a1 < (y129.length : Int)
           · rw [if_pos c16] at H
             have c16b0 : decide (a1 < (y129.length : Int)) = true := decide_eq_true c16
             clear c16
             obtain ⟨y132, hy132⟩ : ∃ y_ : List Bool, y_ = (y129.set (a1 : Int).toNat true) := ⟨_, rfl⟩
             replace H : (spec_l4Reach.l0 kj5 a2 y132 (([a1] : List Int)) l0_0 l0_1) = some r := by first | (rw [hy132]; with_reducible exact H) | (have H2_ := (Option.bind_some _ _).symm.trans H; rw [hy132]; with_reducible exact H2_) | (have H2_ := (Option.bind_some _ _).symm.trans H; with_reducible exact H2_) | with_reducible exact H | (rw [hy132]; exact H) | exact H
             have Ny132 := Aside0.mk hy132
             clear hy132
             obtain ⟨y133, hy133⟩ : ∃ y_ : List Int, y_ = (([a1] : List Int)) := ⟨_, rfl⟩
             replace H : (spec_l4Reach.l0 kj5 a2 y132 y133 l0_0 l0_1) = some r := by first | (rw [hy133]; with_reducible exact H) | (have H2_ := (Option.bind_some _ _).symm.trans H; rw [hy133]; with_reducible exact H2_) | (have H2_ := (Option.bind_some _ _).symm.trans H; with_reducible exact H2_) | with_reducible exact H | (rw [hy133]; exact H) | exact H
             have Ny133 := Aside0.mk hy133
             clear hy133
             have H' := Aside0.mk H
             clear H
             have p17 : 0 ≤ (a1 : Int) := of_decide_eq_true az
             have q17 : (a1 : Int) < ((y129.length : Int) : Int) := of_decide_eq_true az
             obtain ⟨go17, co17, eo17, gb17, gl17, cl17, HG17⟩ := Kd.R_form HO_7.out (by omega)
             (first | cases eo17 | (injection eo17 with ea_ en_ ec_; (first | subst ea_ | (injection ea_ with ea_; subst ea_)); subst ec_; clear en_))
             have GB17 := Aside0.mk gb17
             have GG17 := Aside0.mk HG17
             clear gb17 gl17 HG17
             obtain ⟨hx17_0, hf17_0⟩ := Kd.R_celln false HO_7.out (a1 : Int) p17 q17
             replace p17 := eq_true p17
             replace q17 := eq_true q17
             have HP18 := Kd.R_putg HO_7.out (a1 : Int) true
             go_wp2_with (first | ((with_reducible refine gate_store (t := 4) (p := 33) rfl ?_); refine store_event (t := 4) (p := 33) (v := ?vo_w19) (w1 := (wc.setCell ⟨go17, (a1 : Int).toNat, none⟩ (.bool true))) ?hg ?ho ?hn ?hr ?_; (case ho => rfl); (case hg => rfl); (case hn => rfl); (case hr => first | (go_simp; done) | (go_simp; rfl)); intro w19 hw; have hg : wc.grownBy w19 (some go17) := (by rw [hw]; exact HP18.2); have hp_ : Kd.R Kd.bool 4 w19 w.heap.size (fun _ => True) (.slice (some ⟨go17, 0, none⟩) y129.length co17) y132 := (by rw [hw, Ny132.out]; exact HP18.1); clear HP18; have n0_ := Aside0.mk (hp_); have n1_ := Aside0.mk (blk_grown (g := gb128) (o := .cells #[.slice A0_0 l0_0.length c0_0, .slice A0_1 l0_1.length c0_1] 52 (0, 0)) kz hg (Kd.R_ne HO_7.out BK128.out (by decide))); have n2_ := Aside0.mk ((by rw [hw]; exact below_set (HB.out) GB17.out : Below w.heap.size w w19)); clear HO_7; clear BK128; clear HB; have HO_7 := n0_; have BK128 := n1_; have HB := n2_; clear n0_ n1_ n2_; clear hg hw hp_) | ((with_reducible refine gate_dst (N := 35) rfl ?_); (try (refine gate_guard (by rfl) ?_; dsimp only)); refine Kd.R_lit (Kd.int .i64) _ 2 ?hg (N := 35) ?hd (xs := ([a1] : List Int)) (inner := [.int .i64 a1]) (ok := fun _ => True) (okp := fun _ => True) ?hr ?hp (fun _ hk => hk) trivial (Below.refl _ _) (Nat.le_refl _) (by simp) ?_; (case hd => rfl); (case hg => rfl); (case hr => first | (go_simp; done) | (go_simp; rfl)); (case hp => exact (Reps.one (show Kd.M (Kd.int .i64) _ _ _ a1 [.int .i64 a1] from rfl) (Reps.none _ _))); intro v134 w20 ho21 hb hg_ hnew_; clear hg_ hnew_; (first | rw [← Ny133.out] at ho21 | (simp only [Int.reduceToNat] at ho21; rw [← Ny133.out] at ho21)); have n0_ := Aside0.mk (Kd.R_below (rz HO_7.out) hb); have n1_ := Aside0.mk (Kd.R_lower ho21 (below_size bz)); have n2_ := Aside0.mk (blk_below (g := gb128) (o := .cells #[.slice A0_0 l0_0.length c0_0, .slice A0_1 l0_1.length c0_1] 52 (0, 0)) kz hb); have n3_ := Aside0.mk (below_step bz hb); clear HO_7; clear BK128; clear HB; have HO_7 := n0_; have HO135 := n1_; have BK128 := n2_; have HB := n3_; clear n0_ n1_ n2_ n3_; clear hb ho21))
             go_loopg [8] kj5 (fun kq v8 w' => ∃ (x7_2 : List Bool) (x8_2 : List Int), Aside0 (spec_l4Reach.l0 kq a2 x7_2 x8_2 l0_0 l0_1 = some r) ∧ Aside0 (kq ≤ kj5) ∧ Aside0 (Kd.R Kd.bool 4 w' w.heap.size (fun _ => True) (.slice (some ⟨go17, 0, none⟩) y129.length co17) x7_2) ∧ Aside0 (Kd.R (Kd.int .i64) 2 w' w.heap.size (fun _ => True) v8 x8_2) ∧ Aside0 (w'.heap[gb128]? = some (.cells #[(.slice A0_0 l0_0.length c0_0), (.slice A0_1 l0_1.length c0_1)] 52 (0, 0))) ∧ Aside0 (Below w.heap.size w w'))
             case atStart => exact ⟨(y132), (y133), H', ⟨Nat.le_refl _⟩, ⟨by (with_reducible repeat (first | apply Kd.R_alloc | apply Kd.R_drewN | apply Kd.R_drew)); exact HO_7.out⟩, ⟨by (with_reducible repeat (first | apply Kd.R_alloc | apply Kd.R_drewN | apply Kd.R_drew)); exact HO135.out⟩, ⟨ kz⟩, ⟨ bz⟩⟩
             case round =>
              clear H'
              try clear c1
              try clear p1
              try clear q1
              try clear hx1
              try clear p2
              try clear c4
              try clear c4b0
              try clear c4b1
              try clear c5
              try clear c5b0
              try clear c5b1
              try clear c11
              try clear c11b0
              try clear c11b1
              try clear c12
              try clear c12b0
              try clear c14
              try clear c15
              try clear c15b0
              try clear c16
              try clear c16b0
              try clear p17
              try clear q17
              try clear hx17
              try clear hf17
              try clear hcz13_0
              try clear hcz13_1
              try clear hcz8_0
              try clear hcz8_1
              try clear hfz13_0
              try clear hfz13_1
              try clear hfz8_0
              try clear hfz8_1
              try clear hx17_0
              try clear p17
              try clear p2
              try clear q17
              obtain ⟨x7_2, x8_2, HA, HK2, HO_7, HO_8, BK128, HB⟩ := hrel
              have hl7_2 := (Kd.R_reads' HO_7.out).1
              rw [hl7_2] at HO_7
              (try simp only [hl7_2])
              (try simp only [hl7_2] at BK128)
              (try simp only [hl7_2] at HO_8)
              cases gk with
              | zero => exact absurd HA.out (by simp [spec_l4Reach.l0])
              | succ k2 =>
               have H := HA.out
               clear HA
               simp only [spec_l4Reach.l0] at H
               by_cases c22 : (x8_2.length : Int) > 0
               · rw [if_pos c22] at H
                 have c22b0 : decide (0 < (x8_2.length : Int)) = true := decide_eq_true c22
                 have c22b1 : decide (0 < x8_2.length) = true := decide_eq_true (by omega)
                 clear c22
                 obtain ⟨ji23, hji23⟩ : ∃ j_ : Int, (wrap64 ((x8_2.length : Int) - 1)) = j_ := ⟨_, rfl⟩
                 replace H : (if 0 ≤ (ji23) then (if (ji23) < (x8_2.length : Int) then (if (ji23) ≤ (x8_2.length : Int) then (spec_l4Reach.l1 k2 a2 x7_2 (x8_2.take ((ji23) : Int).toNat) (rd x8_2 (ji23)) 0 l0_0 l0_1) else (none)) else (none)) else (none)) = some r := by first | (rw [hji23] at H; exact H) | (simp only [hji23] at H ⊢; exact H)
                 have hji23w : (IntKind.i64.wrap ((x8_2.length : Int) - 1)) = ji23 := (i64_w _).trans hji23
                 by_cases c24 : 0 ≤ (ji23)
                 · rw [if_pos c24] at H
                   have c24b0 : decide (0 ≤ (ji23)) = true := decide_eq_true c24
                   clear c24
                   by_cases c25 : (ji23) < (x8_2.length : Int)
                   · rw [if_pos c25] at H
                     have c25b0 : decide ((ji23) < (x8_2.length : Int)) = true := decide_eq_true c25
                     clear c25
                     by_cases c26 : (ji23) ≤ (x8_2.length : Int)
                     · rw [if_pos c26] at H
                       have c26b0 := eq_true c26
                       have c26b1 : decide ((ji23) ≤ (x8_2.length : Int)) = true := decide_eq_true c26
                       clear c26
                       obtain ⟨y137, hy137⟩ : ∃ y_ : List Int, y_ = (x8_2.take ((ji23) : Int).toNat) := ⟨_, rfl⟩
                       replace H : (spec_l4Reach.l1 k2 a2 x7_2 y137 (rd x8_2 (ji23)) 0 l0_0 l0_1) = some r := by first | (rw [hy137]; with_reducible exact H) | (have H2_ := (Option.bind_some _ _).symm.trans H; rw [hy137]; with_reducible exact H2_) | (have H2_ := (Option.bind_some _ _).symm.trans H; with_reducible exact H2_) | with_reducible exact H | (rw [hy137]; exact H) | exact H
                       have Ny137 := Aside0.mk hy137
                       clear hy137
                       have H' := Aside0.mk H
                       clear H
                       obtain ⟨Ao27, co27, eo27⟩ := Kd.R_slice HO_8.out
                       subst eo27
                       have p136 : 0 ≤ ((ji23) : Int) := of_decide_eq_true az
                       have q136 : (ji23) < (x8_2.length : Int) := of_decide_eq_true az
                       obtain ⟨ad136, e136, hx136_0⟩ := Kd.at_int (Kd.R_reads' HO_8.out).2.2 (ji23) p136 q136
                       cases e136
                       replace p136 := eq_true p136
                       replace q136 := eq_true q136
                       have q28 : ((ji23) : Int) ≤ ((x8_2.length : Int) : Int) := of_decide_eq_true az
                       obtain ⟨i028, hi028, _, hsz28, _⟩ := info_parts info2
                       have hcut28 := cut_to (P := Try.prog) 22 2 .i64 Try.underlying22 hi028 (some ad136) x8_2.length co27 (ji23) (of_decide_eq_true az) q28 (Kd.R_reads' HO_8.out).2.1
                       have hr28 := Kd.R_take (m := ((ji23) : Int).toNat) HO_8.out (by omega)
                       have hy28 : y137.length = ((ji23) : Int).toNat := (by rw [Ny137.out, List.length_take]; omega)
                       rw [← Ny137.out] at hr28
                       rw [← hy28] at hr28 hcut28
                       clear hy28 hi028 hsz28 HO_8
                       have HO139 := Aside0.mk hr28
                       clear hr28
                       replace q28 := eq_true q28
                       go_wp2
                       go_loopg [8, 10] k2 (fun kq v8 v10 w' => ∃ (x7_3 : List Bool) (x8_3 : List Int) (x10_3 : Int), v10 = .int .i64 x10_3 ∧ Aside0 (spec_l4Reach.l1 kq a2 x7_3 x8_3 (rd x8_2 (ji23)) x10_3 l0_0 l0_1 = some r) ∧ Aside0 (kq ≤ k2) ∧ Aside0 (Kd.R Kd.bool 4 w' w.heap.size (fun _ => True) (.slice (some ⟨go17, 0, none⟩) x7_2.length co17) x7_3) ∧ Aside0 (Kd.R (Kd.int .i64) 2 w' w.heap.size (fun _ => True) v8 x8_3) ∧ Aside0 (w'.heap[gb128]? = some (.cells #[(.slice A0_0 l0_0.length c0_0), (.slice A0_1 l0_1.length c0_1)] 52 (0, 0))) ∧ Aside0 (Below w.heap.size w w'))
                       case atStart => exact ⟨(x7_2), (y137), (0), sz_, H', ⟨Nat.le_refl _⟩, ⟨by (try simp only [hl7_2]); (with_reducible repeat (first | apply Kd.R_alloc | apply Kd.R_drewN | apply Kd.R_drew)); exact HO_7.out⟩, ⟨by (try simp only [hl7_2]); (with_reducible repeat (first | apply Kd.R_alloc | apply Kd.R_drewN | apply Kd.R_drew)); exact HO139.out⟩, ⟨by (try simp only [hl7_2]); (with_reducible repeat (first | refine blk_drewN ?_ _ | refine blk_drew ?_ | refine blk_alloc ?_ _)); exact BK128.out⟩, ⟨ bz⟩⟩
                       case round =>
                        clear H'
                        try clear c1
                        try clear p1
                        try clear q1
                        try clear hx1
                        try clear c2
                        try clear p2
                        try clear q2
                        try clear c4
                        try clear c4b0
                        try clear c4b1
                        try clear c5
                        try clear c5b0
                        try clear c5b1
                        try clear p6
                        try clear c11
                        try clear c11b0
                        try clear c11b1
                        try clear c12
                        try clear c12b0
                        try clear p13
                        try clear q13
                        try clear hx13
                        try clear c14
                        try clear c15
                        try clear c15b0
                        try clear c16
                        try clear c16b0
                        try clear p17
                        try clear q17
                        try clear hx17
                        try clear hf17
                        try clear c22
                        try clear c22b0
                        try clear c22b1
                        try clear c24
                        try clear c24b0
                        try clear c25
                        try clear c25b0
                        try clear c26
                        try clear c26b0
                        try clear c26b1
                        try clear q28
                        try clear hcz13_0
                        try clear hcz13_1
                        try clear hcz8_0
                        try clear hcz8_1
                        try clear hfz13_0
                        try clear hfz13_1
                        try clear hfz8_0
                        try clear hfz8_1
                        try clear hx136_0
                        try clear hx17_0
                        try clear p1
                        try clear p136
                        try clear p17
                        try clear p2
                        try clear q1
                        try clear q136
                        try clear q17
                        try clear q28
                        obtain ⟨x7_3, x8_3, x10_3, rfl, HA, HK3, HO_7, HO_8, BK128, HB⟩ := hrel
                        have hl7_3 := (Kd.R_reads' HO_7.out).1
                        rw [hl7_3] at HO_7
                        (try simp only [hl7_3])
                        (try simp only [hl7_3] at BK128)
                        (try simp only [hl7_3] at HO_8)
                        cases gk with
                        | zero => exact absurd HA.out (by simp [spec_l4Reach.l1])
                        | succ k3 =>
                         have H := HA.out
                         clear HA
                         simp only [spec_l4Reach.l1] at H
                         by_cases c29 : 0 ≤ (rd x8_2 (ji23))
                         · rw [if_pos c29] at H
                           have c29b0 : decide (0 ≤ (rd x8_2 (ji23))) = true := decide_eq_true c29
                           clear c29
                           by_cases c30 : (rd x8_2 (ji23)) < (l0_0.length : Int)
                           · rw [if_pos c30] at H
                             have c30b0 : decide ((rd x8_2 (ji23)) < (l0_0.length : Int)) = true := decide_eq_true c30
                             clear c30
                             by_cases c31 : x10_3 < ((rd_L4 l0_0 (rd x8_2 (ji23))).length : Int)
                             · rw [if_pos c31] at H
                               have c31b0 : decide (x10_3 < ((rd_L4 l0_0 (rd x8_2 (ji23))).length : Int)) = true := decide_eq_true c31
                               clear c31
                               by_cases c32 : 0 ≤ x10_3
                               · rw [if_pos c32] at H
                                 have c32b0 : decide (0 ≤ x10_3) = true := decide_eq_true c32
                                 clear c32
                                 by_cases c33 : (rd (rd_L4 l0_0 (rd x8_2 (ji23))) x10_3) = a2
                                 · rw [if_pos c33] at H
                                   have c33b0 : ((rd (rd_L4 l0_0 (rd x8_2 (ji23))) x10_3) == a2) = true := beq_iff_eq.mpr c33
                                   have c33b1 : ((rd (rd_L4 l0_0 (rd x8_2 (ji23))) x10_3) != a2) = false := bne_eq_false_iff_eq.mpr c33
                                   clear c33
                                   have H' := Aside0.mk H
                                   clear H
                                   have hcz34_0 : wr.cell? ⟨gb128, 0, none⟩ = some (.slice A0_0 l0_0.length c0_0) := (blk_cell BK128.out 0).trans rfl
                                   have hcz34_1 : wr.cell? ⟨gb128, 1, none⟩ = some (.slice A0_1 l0_1.length c0_1) := (blk_cell BK128.out 1).trans rfl
                                   have hfz34_0 := blk_frozen BK128.out 0
                                   have hfz34_1 := blk_frozen BK128.out 1
                                   have p140 : 0 ≤ ((rd x8_2 (ji23)) : Int) := of_decide_eq_true az
                                   have q140 : (rd x8_2 (ji23)) < (l0_0.length : Int) := of_decide_eq_true az
                                   obtain ⟨ad140, A140_0, c140_0, e140, hx140_0, hl140_0, hi140_0⟩ := at_L4 HR0_0.out (rd x8_2 (ji23)) p140 q140
                                   cases e140
                                   replace hx140_0 := ck HB hx140_0
                                   have HR140_0 := Aside0.mk hi140_0
                                   have HC140_0 := Aside0.mk hl140_0
                                   clear hi140_0 hl140_0
                                   replace p140 := eq_true p140
                                   replace q140 := eq_true q140
                                   have p141 : 0 ≤ ((rd x8_2 (ji23)) : Int) := of_decide_eq_true az
                                   have q141 : (rd x8_2 (ji23)) < (l0_0.length : Int) := of_decide_eq_true az
                                   obtain ⟨ad141, A141_0, c141_0, e141, hx141_0, hl141_0, hi141_0⟩ := at_L4 HR0_0.out (rd x8_2 (ji23)) p141 q141
                                   obtain rfl : ad140 = ad141 := (by injection e141)
                                   replace hx141_0 := ck HB hx141_0
                                   have HR141_0 := Aside0.mk hi141_0
                                   have HC141_0 := Aside0.mk hl141_0
                                   clear hi141_0 hl141_0
                                   replace p141 := eq_true p141
                                   replace q141 := eq_true q141
                                   have ea_ := Option.some.inj (hx140_0.symm.trans hx141_0)
                                   injection ea_ with ea_ en_ ec_
                                   subst ea_
                                   subst ec_
                                   clear en_
                                   have p142 : 0 ≤ (x10_3 : Int) := of_decide_eq_true az
                                   have q142 : x10_3 < ((rd_L4 l0_0 (rd x8_2 (ji23))).length : Int) := of_decide_eq_true az
                                   obtain ⟨ad142, e142, hx142_0⟩ := Kd.at_int HR141_0.out x10_3 p142 q142
                                   cases e142
                                   replace hx142_0 := ck HB hx142_0
                                   replace p142 := eq_true p142
                                   replace q142 := eq_true q142
                                   go_wp2
                                   (try simp only [← hl7_3])
                                   go_roundg k3
                                   case measure => have := HJ5.out; have := HK2.out; have := HK3.out; omega
                                   case rel => exact ⟨(x7_3), (x8_3), (wrap64 (x10_3 + 1)), sz_, H', ⟨by have := HJ5.out; have := HK2.out; have := HK3.out; omega⟩, ⟨by (try simp only [hl7_2]); (try simp only [hl7_3]); (with_reducible repeat (first | apply Kd.R_alloc | apply Kd.R_drewN | apply Kd.R_drew)); exact HO_7.out⟩, ⟨by (try simp only [hl7_2]); (try simp only [hl7_3]); (with_reducible repeat (first | apply Kd.R_alloc | apply Kd.R_drewN | apply Kd.R_drew)); exact HO_8.out⟩, ⟨by (try simp only [hl7_2]); (try simp only [hl7_3]); (with_reducible repeat (first | refine blk_drewN ?_ _ | refine blk_drew ?_ | refine blk_alloc ?_ _)); exact BK128.out⟩, ⟨ bz⟩⟩
                                 · rw [if_neg c33] at H
                                   have c33b0 : ((rd (rd_L4 l0_0 (rd x8_2 (ji23))) x10_3) == a2) = false := beq_eq_false_iff_ne.mpr c33
                                   have c33b1 : ((rd (rd_L4 l0_0 (rd x8_2 (ji23))) x10_3) != a2) = true := bne_iff_ne.mpr c33
                                   by_cases c35 : 0 ≤ (rd (rd_L4 l0_0 (rd x8_2 (ji23))) x10_3)
                                   · rw [if_pos c35] at H
                                     have c35b0 : decide (0 ≤ (rd (rd_L4 l0_0 (rd x8_2 (ji23))) x10_3)) = true := decide_eq_true c35
                                     clear c35
                                     by_cases c36 : (rd (rd_L4 l0_0 (rd x8_2 (ji23))) x10_3) < (x7_3.length : Int)
                                     · rw [if_pos c36] at H
                                       have c36b0 : decide ((rd (rd_L4 l0_0 (rd x8_2 (ji23))) x10_3) < (x7_3.length : Int)) = true := decide_eq_true c36
                                       clear c36
                                       obtain ⟨bq37, hbq37⟩ : ∃ b_ : Bool, b_ = (rdOf false x7_3 (rd (rd_L4 l0_0 (rd x8_2 (ji23))) x10_3)) := ⟨_, rfl⟩
                                       replace H : (if (bq37 = true) then (spec_l4Reach.l1 k3 a2 x7_3 x8_3 (rd x8_2 (ji23)) (wrap64 (x10_3 + 1)) l0_0 l0_1) else (if x8_3.length < 17592186044416 then (spec_l4Reach.l1 k3 a2 (x7_3.set ((rd (rd_L4 l0_0 (rd x8_2 (ji23))) x10_3) : Int).toNat true) (x8_3 ++ [rd (rd_L4 l0_0 (rd x8_2 (ji23))) x10_3]) (rd x8_2 (ji23)) (wrap64 (x10_3 + 1)) l0_0 l0_1) else (none))) = some r := by rw [← hbq37] at H; exact H
                                       have Nbq37 := Aside0.mk hbq37
                                       clear hbq37
                                       by_cases c38 : (bq37 = true)
                                       · subst c38
                                         have H1 : (spec_l4Reach.l1 k3 a2 x7_3 x8_3 (rd x8_2 (ji23)) (wrap64 (x10_3 + 1)) l0_0 l0_1) = some r := by rw [if_pos rfl] at H; exact H
                                         clear H
                                         have H := H1
                                         clear H1
                                         have H' := Aside0.mk H
                                         clear H
                                         have hcz39_0 : wr.cell? ⟨gb128, 0, none⟩ = some (.slice A0_0 l0_0.length c0_0) := (blk_cell BK128.out 0).trans rfl
                                         have hcz39_1 : wr.cell? ⟨gb128, 1, none⟩ = some (.slice A0_1 l0_1.length c0_1) := (blk_cell BK128.out 1).trans rfl
                                         have hfz39_0 := blk_frozen BK128.out 0
                                         have hfz39_1 := blk_frozen BK128.out 1
                                         have p140 : 0 ≤ ((rd x8_2 (ji23)) : Int) := of_decide_eq_true az
                                         have q140 : (rd x8_2 (ji23)) < (l0_0.length : Int) := of_decide_eq_true az
                                         obtain ⟨ad140, A140_0, c140_0, e140, hx140_0, hl140_0, hi140_0⟩ := at_L4 HR0_0.out (rd x8_2 (ji23)) p140 q140
                                         cases e140
                                         replace hx140_0 := ck HB hx140_0
                                         have HR140_0 := Aside0.mk hi140_0
                                         have HC140_0 := Aside0.mk hl140_0
                                         clear hi140_0 hl140_0
                                         replace p140 := eq_true p140
                                         replace q140 := eq_true q140
                                         have p141 : 0 ≤ ((rd x8_2 (ji23)) : Int) := of_decide_eq_true az
                                         have q141 : (rd x8_2 (ji23)) < (l0_0.length : Int) := of_decide_eq_true az
                                         obtain ⟨ad141, A141_0, c141_0, e141, hx141_0, hl141_0, hi141_0⟩ := at_L4 HR0_0.out (rd x8_2 (ji23)) p141 q141
                                         obtain rfl : ad140 = ad141 := (by injection e141)
                                         replace hx141_0 := ck HB hx141_0
                                         have HR141_0 := Aside0.mk hi141_0
                                         have HC141_0 := Aside0.mk hl141_0
                                         clear hi141_0 hl141_0
                                         replace p141 := eq_true p141
                                         replace q141 := eq_true q141
                                         have ea_ := Option.some.inj (hx140_0.symm.trans hx141_0)
                                         injection ea_ with ea_ en_ ec_
                                         subst ea_
                                         subst ec_
                                         clear en_
                                         have p142 : 0 ≤ (x10_3 : Int) := of_decide_eq_true az
                                         have q142 : x10_3 < ((rd_L4 l0_0 (rd x8_2 (ji23))).length : Int) := of_decide_eq_true az
                                         obtain ⟨ad142, e142, hx142_0⟩ := Kd.at_int HR141_0.out x10_3 p142 q142
                                         cases e142
                                         replace hx142_0 := ck HB hx142_0
                                         replace p142 := eq_true p142
                                         replace q142 := eq_true q142
                                         have p143 : 0 ≤ ((rd (rd_L4 l0_0 (rd x8_2 (ji23))) x10_3) : Int) := of_decide_eq_true az
                                         have q143 : (rd (rd_L4 l0_0 (rd x8_2 (ji23))) x10_3) < (x7_3.length : Int) := of_decide_eq_true az
                                         obtain ⟨ad143, e143, hx143_0⟩ := Kd.at_bool (Kd.R_reads' HO_7.out).2.2 (rd (rd_L4 l0_0 (rd x8_2 (ji23))) x10_3) p143 q143
                                         (try rw [← Nbq37.out] at hx143_0)
                                         obtain rfl : (⟨go17, 0, none⟩ : Addr) = ad143 := (by injection e143)
                                         (first | simp only [add_plain] at hx143_0 | simp only [add_at] at hx143_0 | simp only [Addr.add, Nat.zero_add] at hx143_0 | skip)
                                         replace p143 := eq_true p143
                                         replace q143 := eq_true q143
                                         go_wp2
                                         (try simp only [← hl7_3])
                                         go_roundg k3
                                         case measure => have := HJ5.out; have := HK2.out; have := HK3.out; omega
                                         case rel => exact ⟨(x7_3), (x8_3), (wrap64 (x10_3 + 1)), sz_, H', ⟨by have := HJ5.out; have := HK2.out; have := HK3.out; omega⟩, ⟨by (try simp only [hl7_2]); (try simp only [hl7_3]); (with_reducible repeat (first | apply Kd.R_alloc | apply Kd.R_drewN | apply Kd.R_drew)); exact HO_7.out⟩, ⟨by (try simp only [hl7_2]); (try simp only [hl7_3]); (with_reducible repeat (first | apply Kd.R_alloc | apply Kd.R_drewN | apply Kd.R_drew)); exact HO_8.out⟩, ⟨by (try simp only [hl7_2]); (try simp only [hl7_3]); (with_reducible repeat (first | refine blk_drewN ?_ _ | refine blk_drew ?_ | refine blk_alloc ?_ _)); exact BK128.out⟩, ⟨ bz⟩⟩
                                       · replace c38 := Bool.eq_false_iff.mpr c38
                                         subst c38
                                         have H1 : (if x8_3.length < 17592186044416 then (spec_l4Reach.l1 k3 a2 (x7_3.set ((rd (rd_L4 l0_0 (rd x8_2 (ji23))) x10_3) : Int).toNat true) (x8_3 ++ [rd (rd_L4 l0_0 (rd x8_2 (ji23))) x10_3]) (rd x8_2 (ji23)) (wrap64 (x10_3 + 1)) l0_0 l0_1) else (none)) = some r := by rw [if_neg (show ¬ (false = true) by decide)] at H; exact H
                                         clear H
                                         have H := H1
                                         clear H1
                                         obtain ⟨y144, hy144⟩ : ∃ y_ : List Bool, y_ = (x7_3.set ((rd (rd_L4 l0_0 (rd x8_2 (ji23))) x10_3) : Int).toNat true) := ⟨_, rfl⟩
                                         replace H : (if x8_3.length < 17592186044416 then (spec_l4Reach.l1 k3 a2 y144 (x8_3 ++ [rd (rd_L4 l0_0 (rd x8_2 (ji23))) x10_3]) (rd x8_2 (ji23)) (wrap64 (x10_3 + 1)) l0_0 l0_1) else (none)) = some r := by first | (rw [hy144]; with_reducible exact H) | (have H2_ := (Option.bind_some _ _).symm.trans H; rw [hy144]; with_reducible exact H2_) | (have H2_ := (Option.bind_some _ _).symm.trans H; with_reducible exact H2_) | with_reducible exact H | (rw [hy144]; exact H) | exact H
                                         have Ny144 := Aside0.mk hy144
                                         clear hy144
                                         by_cases c41 : x8_3.length < 17592186044416
                                         · rw [if_pos c41] at H
                                           have LMc41 := Aside0.mk c41
                                           clear c41
                                           obtain ⟨y145, hy145⟩ : ∃ y_ : List Int, y_ = (x8_3 ++ [rd (rd_L4 l0_0 (rd x8_2 (ji23))) x10_3]) := ⟨_, rfl⟩
                                           replace H : (spec_l4Reach.l1 k3 a2 y144 y145 (rd x8_2 (ji23)) (wrap64 (x10_3 + 1)) l0_0 l0_1) = some r := by first | (rw [hy145]; with_reducible exact H) | (have H2_ := (Option.bind_some _ _).symm.trans H; rw [hy145]; with_reducible exact H2_) | (have H2_ := (Option.bind_some _ _).symm.trans H; with_reducible exact H2_) | with_reducible exact H | (rw [hy145]; exact H) | exact H
                                           have Ny145 := Aside0.mk hy145
                                           clear hy145
                                           have H' := Aside0.mk H
                                           clear H
                                           have hcz42_0 : wr.cell? ⟨gb128, 0, none⟩ = some (.slice A0_0 l0_0.length c0_0) := (blk_cell BK128.out 0).trans rfl
                                           have hcz42_1 : wr.cell? ⟨gb128, 1, none⟩ = some (.slice A0_1 l0_1.length c0_1) := (blk_cell BK128.out 1).trans rfl
                                           have hfz42_0 := blk_frozen BK128.out 0
                                           have hfz42_1 := blk_frozen BK128.out 1
                                           have p140 : 0 ≤ ((rd x8_2 (ji23)) : Int) := of_decide_eq_true az
                                           have q140 : (rd x8_2 (ji23)) < (l0_0.length : Int) := of_decide_eq_true az
                                           obtain ⟨ad140, A140_0, c140_0, e140, hx140_0, hl140_0, hi140_0⟩ := at_L4 HR0_0.out (rd x8_2 (ji23)) p140 q140
                                           cases e140
                                           replace hx140_0 := ck HB hx140_0
                                           have HR140_0 := Aside0.mk hi140_0
                                           have HC140_0 := Aside0.mk hl140_0
                                           clear hi140_0 hl140_0
                                           replace p140 := eq_true p140
                                           replace q140 := eq_true q140
                                           have p141 : 0 ≤ ((rd x8_2 (ji23)) : Int) := of_decide_eq_true az
                                           have q141 : (rd x8_2 (ji23)) < (l0_0.length : Int) := of_decide_eq_true az
                                           obtain ⟨ad141, A141_0, c141_0, e141, hx141_0, hl141_0, hi141_0⟩ := at_L4 HR0_0.out (rd x8_2 (ji23)) p141 q141
                                           obtain rfl : ad140 = ad141 := (by injection e141)
                                           replace hx141_0 := ck HB hx141_0
                                           have HR141_0 := Aside0.mk hi141_0
                                           have HC141_0 := Aside0.mk hl141_0
                                           clear hi141_0 hl141_0
                                           replace p141 := eq_true p141
                                           replace q141 := eq_true q141
                                           have ea_ := Option.some.inj (hx140_0.symm.trans hx141_0)
                                           injection ea_ with ea_ en_ ec_
                                           subst ea_
                                           subst ec_
                                           clear en_
                                           have p142 : 0 ≤ (x10_3 : Int) := of_decide_eq_true az
                                           have q142 : x10_3 < ((rd_L4 l0_0 (rd x8_2 (ji23))).length : Int) := of_decide_eq_true az
                                           obtain ⟨ad142, e142, hx142_0⟩ := Kd.at_int HR141_0.out x10_3 p142 q142
                                           cases e142
                                           replace hx142_0 := ck HB hx142_0
                                           replace p142 := eq_true p142
                                           replace q142 := eq_true q142
                                           have p143 : 0 ≤ ((rd (rd_L4 l0_0 (rd x8_2 (ji23))) x10_3) : Int) := of_decide_eq_true az
                                           have q143 : (rd (rd_L4 l0_0 (rd x8_2 (ji23))) x10_3) < (x7_3.length : Int) := of_decide_eq_true az
                                           obtain ⟨ad143, e143, hx143_0⟩ := Kd.at_bool (Kd.R_reads' HO_7.out).2.2 (rd (rd_L4 l0_0 (rd x8_2 (ji23))) x10_3) p143 q143
                                           (try rw [← Nbq37.out] at hx143_0)
                                           obtain rfl : (⟨go17, 0, none⟩ : Addr) = ad143 := (by injection e143)
                                           (first | simp only [add_plain] at hx143_0 | simp only [add_at] at hx143_0 | simp only [Addr.add, Nat.zero_add] at hx143_0 | skip)
                                           replace p143 := eq_true p143
                                           replace q143 := eq_true q143
                                           have p40 : 0 ≤ ((rd (rd_L4 l0_0 (rd x8_2 (ji23))) x10_3) : Int) := of_decide_eq_true az
                                           have q40 : ((rd (rd_L4 l0_0 (rd x8_2 (ji23))) x10_3) : Int) < ((x7_3.length : Int) : Int) := of_decide_eq_true az
                                           obtain ⟨hx40_0, hf40_0⟩ := Kd.R_celln false HO_7.out ((rd (rd_L4 l0_0 (rd x8_2 (ji23))) x10_3) : Int) p40 q40
                                           replace p40 := eq_true p40
                                           replace q40 := eq_true q40
                                           have HP43 := Kd.R_putg HO_7.out ((rd (rd_L4 l0_0 (rd x8_2 (ji23))) x10_3) : Int) true
                                           go_wp2_with (first | ((with_reducible refine gate_store (t := 4) (p := 80) rfl ?_); refine store_event (t := 4) (p := 80) (v := ?vo_w44) (w1 := (wr.setCell ⟨go17, ((rd (rd_L4 l0_0 (rd x8_2 (ji23))) x10_3) : Int).toNat, none⟩ (.bool true))) ?hg ?ho ?hn ?hr ?_; (case ho => rfl); (case hg => rfl); (case hn => rfl); (case hr => first | (go_simp; done) | (go_simp; rfl)); intro w44 hw; have hg : wr.grownBy w44 (some go17) := (by rw [hw]; exact HP43.2); have hp_ : Kd.R Kd.bool 4 w44 w.heap.size (fun _ => True) (.slice (some ⟨go17, 0, none⟩) x7_3.length co17) y144 := (by rw [hw, Ny144.out]; exact HP43.1); clear HP43; have n0_ := Aside0.mk (hp_); have n1_ := Aside0.mk (Kd.R_over' (v := (.slice (some ⟨go17, 0, none⟩) x7_3.length co17)) (rz HO_8.out) (Kd.R_typed HO_7.out) (by decide) hg); have n2_ := Aside0.mk (blk_grown (g := gb128) (o := .cells #[.slice (some ad140) l0_0.length c0_0, .slice A0_1 l0_1.length c0_1] 52 (0, 0)) kz hg (Kd.R_ne HO_7.out BK128.out (by decide))); have n3_ := Aside0.mk ((by rw [hw]; exact below_set (HB.out) GB17.out : Below w.heap.size w w44)); clear HO_7; clear HO_8; clear BK128; clear HB; have HO_7 := n0_; have HO_8 := n1_; have BK128 := n2_; have HB := n3_; clear n0_ n1_ n2_ n3_; clear hg hw hp_) | ((with_reducible refine gate_builtin (b := .append) (xs := #[.tmp 81, .tmp 83]) rfl ?_); (try (refine gate_guard (by rfl) ?_; dsimp only)); at_builtin; refine Kd.R_append (Kd.int .i64) (w0 := w) w.heap.size rfl (.tmp 81) (.tmp 83) 22 2 (.int .i64 0) 8 rfl Try.underlying22 info2 rfl (by decide) (by omega) u8 x8_3 (rd (rd_L4 l0_0 (rd x8_2 (ji23))) x10_3) [.int .i64 (rd (rd_L4 l0_0 (rd x8_2 (ji23))) x10_3)] (fun _ => True) (fun _ => False) rfl rfl ?aP (fun _ hk => hk.elim) ?aF ?aO ?aB ?aS ?aL ?_; (case aP => exact rfl); (case aB => exact bz); (case aF => exact (fun _ _ => trivial)); (case aO => exact (rz HO_8.out)); (case aS => exact (below_size bz)); (case aL => have := LMc41.out; omega); intro v146 w45 ho hb hg hat; rw [← Ny145.out] at ho; have n0_ := Aside0.mk (Kd.R_over' (rz HO_7.out) (Kd.R_typed (rz HO_8.out)) (by decide) hg); have n1_ := Aside0.mk (blk_grown (g := gb128) (o := .cells #[.slice (some ad140) l0_0.length c0_0, .slice A0_1 l0_1.length c0_1] 52 (0, 0)) kz hg (Kd.R_ne HO_8.out BK128.out (by decide))); have n2_ := Aside0.mk (hb); have n3_ := Aside0.mk (ho); clear HO_7; clear BK128; clear HB; clear HO_8; have HO_7 := n0_; have BK128 := n1_; have HB := n2_; have HO147 := n3_; clear n0_ n1_ n2_ n3_; clear ho hb hg hat))
                                           (try simp only [← hl7_3])
                                           go_roundg k3
                                           case measure => have := HJ5.out; have := HK2.out; have := HK3.out; omega
                                           case rel => exact ⟨(y144), (y145), (wrap64 (x10_3 + 1)), sz_, H', ⟨by have := HJ5.out; have := HK2.out; have := HK3.out; omega⟩, ⟨by (try simp only [hl7_2]); (try simp only [hl7_3]); (with_reducible repeat (first | apply Kd.R_alloc | apply Kd.R_drewN | apply Kd.R_drew)); exact HO_7.out⟩, ⟨by (try simp only [hl7_2]); (try simp only [hl7_3]); (with_reducible repeat (first | apply Kd.R_alloc | apply Kd.R_drewN | apply Kd.R_drew)); exact HO147.out⟩, ⟨by (try simp only [hl7_2]); (try simp only [hl7_3]); (with_reducible repeat (first | refine blk_drewN ?_ _ | refine blk_drew ?_ | refine blk_alloc ?_ _)); exact BK128.out⟩, ⟨ bz⟩⟩
                                         · rw [if_neg c41] at H
                                           exact absurd H (by simp)
                                     · rw [if_neg c36] at H
                                       exact absurd H (by simp)
                                   · rw [if_neg c35] at H
                                     exact absurd H (by simp)
                               · rw [if_neg c32] at H
                                 exact absurd H (by simp)
                             · rw [if_neg c31] at H
                               have c31b0 : decide (x10_3 < ((rd_L4 l0_0 (rd x8_2 (ji23))).length : Int)) = false := decide_eq_false c31
                               clear c31
                               have H' := Aside0.mk H
                               clear H
                               have hcz46_0 : wr.cell? ⟨gb128, 0, none⟩ = some (.slice A0_0 l0_0.length c0_0) := (blk_cell BK128.out 0).trans rfl
                               have hcz46_1 : wr.cell? ⟨gb128, 1, none⟩ = some (.slice A0_1 l0_1.length c0_1) := (blk_cell BK128.out 1).trans rfl
                               have hfz46_0 := blk_frozen BK128.out 0
                               have hfz46_1 := blk_frozen BK128.out 1
                               have p140 : 0 ≤ ((rd x8_2 (ji23)) : Int) := of_decide_eq_true az
                               have q140 : (rd x8_2 (ji23)) < (l0_0.length : Int) := of_decide_eq_true az
                               obtain ⟨ad140, A140_0, c140_0, e140, hx140_0, hl140_0, hi140_0⟩ := at_L4 HR0_0.out (rd x8_2 (ji23)) p140 q140
                               cases e140
                               replace hx140_0 := ck HB hx140_0
                               have HR140_0 := Aside0.mk hi140_0
                               have HC140_0 := Aside0.mk hl140_0
                               clear hi140_0 hl140_0
                               replace p140 := eq_true p140
                               replace q140 := eq_true q140
                               go_wp2
                               (try simp only [← hl7_2, ← hl7_3])
                               go_roundg k3
                               case measure => have := HJ5.out; have := HK2.out; have := HK3.out; omega
                               case rel => exact ⟨(x7_3), (x8_3), H', ⟨by have := HJ5.out; have := HK2.out; have := HK3.out; omega⟩, ⟨by (try simp only [hl7_2]); (try simp only [hl7_3]); (with_reducible repeat (first | apply Kd.R_alloc | apply Kd.R_drewN | apply Kd.R_drew)); exact HO_7.out⟩, ⟨by (try simp only [hl7_2]); (try simp only [hl7_3]); (with_reducible repeat (first | apply Kd.R_alloc | apply Kd.R_drewN | apply Kd.R_drew)); exact HO_8.out⟩, ⟨by (try simp only [hl7_2]); (try simp only [hl7_3]); (with_reducible repeat (first | refine blk_drewN ?_ _ | refine blk_drew ?_ | refine blk_alloc ?_ _)); exact BK128.out⟩, ⟨ bz⟩⟩
                           · rw [if_neg c30] at H
                             exact absurd H (by simp)
                         · rw [if_neg c29] at H
                           exact absurd H (by simp)
                     · rw [if_neg c26] at H
                       exact absurd H (by simp)
                   · rw [if_neg c25] at H
                     exact absurd H (by simp)
                 · rw [if_neg c24] at H
                   exact absurd H (by simp)
               · rw [if_neg c22] at H
                 have c22b0 : decide (0 < (x8_2.length : Int)) = false := decide_eq_false c22
                 have c22b1 : decide (0 < x8_2.length) = false := decide_eq_false (by omega)
                 clear c22
                 obtain rfl := Option.some.inj H
                 obtain ⟨Ao47, co47, eo47⟩ := Kd.R_slice HO_8.out
                 subst eo47
                 go_wp2
                 go_ret
                 exact ⟨_, by first | rfl | (simp [errW_none, errW_some] <;> rfl) | (simp [*, errW_none, errW_some] <;> rfl), by (with_reducible repeat (first | apply Kd.R_alloc | apply Kd.R_drewN | apply Kd.R_drew)); exact HO_7.out, bz⟩
           · rw [if_neg c16] at H
             exact absurd H (by simp)
         · rw [if_neg c15] at H
           exact absurd H (by simp)
   · rw [if_neg c5] at H
     exact absurd H (by simp)
 · rw [if_neg c4] at H
   exact absurd H (by simp)

set_option linter.unusedVariables false
set_option linter.unusedSimpArgs false

mutual
def spec_l4Doms.l0 : Nat → Int → List Bool → List (List Bool) → Int → List (List Int) → List (List Int) → Option ((List (List Bool)))
 | 0, _, _, _, _, _, _ => none
 | k + 1, x3, x4, x5, x6, x715000, x715001 => if x6 < x3 then ((spec_l4Reach.f k x715000 x715001 0 x6).bind fun t721 => (if 0 ≤ x3 then (if (x3 : Int).toNat ≤ 281474976710656 then (spec_l4Doms.l1 k x3 x4 x5 x6 t721 (List.replicate (x3 : Int).toNat false) 0 x715000 x715001) else (none)) else (none))) else (some x5)
def spec_l4Doms.l1 : Nat → Int → List Bool → List (List Bool) → Int → List Bool → List Bool → Int → List (List Int) → List (List Int) → Option ((List (List Bool)))
 | 0, _, _, _, _, _, _, _, _, _ => none
 | k + 1, x3, x4, x5, x6, x7, x8, x9, x715000, x715001 => if x9 < x3 then (if 0 ≤ x9 then (if x9 < (x4.length : Int) then (if rdOf false x4 x9 = true then (if x9 < (x7.length : Int) then (if x9 < (x8.length : Int) then (spec_l4Doms.l1 k x3 x4 x5 x6 x7 (x8.set (x9 : Int).toNat (!(rdOf false x7 x9))) (wrap64 (x9 + 1)) x715000 x715001) else (none)) else (none)) else (if x9 < (x8.length : Int) then (spec_l4Doms.l1 k x3 x4 x5 x6 x7 (x8.set (x9 : Int).toNat false) (wrap64 (x9 + 1)) x715000 x715001) else (none))) else (none)) else (none)) else (if x5.length < 5864062014805 then (spec_l4Doms.l0 k x3 x4 (x5 ++ [x8]) (wrap64 (x6 + 1)) x715000 x715001) else (none))
end
def spec_l4Doms.f (k : Nat) (l0_0 : List (List Int)) (l0_1 : List (List Int)) : Option ((List (List Bool))) := (spec_l4Reach.f k l0_0 l0_1 0 (-1)).bind fun t715 => (spec_l4Doms.l0 k (l0_0.length : Int) t715 (([] : List (List Bool))) 0 l0_0 l0_1)
set_option maxHeartbeats 8000000 in
set_option maxRecDepth 100000 in
theorem spec_l4Doms.calls (k : Nat) (A0_0 : Option Addr) (c0_0 : Nat) (l0_0 : List (List Int)) (A0_1 : Option Addr) (c0_1 : Nat) (l0_1 : List (List Int)) (r : List (List Bool)) (w : World) (hr0_0 : Kd.C (Kd.slice 2 (Kd.int .i64)) w A0_0 l0_0.length l0_0) (hc0_0 : l0_0.length ≤ c0_0) (hr0_1 : Kd.C (Kd.slice 2 (Kd.int .i64)) w A0_1 l0_1.length l0_1) (hc0_1 : l0_1.length ≤ c0_1) (h : spec_l4Doms.f k l0_0 l0_1 = some r) :
 Calls Try.prog 59 #[.agg #[.slice A0_0 l0_0.length c0_0, .slice A0_1 l0_1.length c0_1]] w fun e w' => ∃ v0_ : Value, e = .returned (v0_) ∧ Kd.S (Kd.slice 4 Kd.bool) 54 w' w.heap.size (fun _ => True) v0_ r ∧ Below w.heap.size w w' := by
 have hu52 := Try.underlying52
 have HR0_0 := Aside0.mk hr0_0
 have HC0_0 := Aside0.mk hc0_0
 clear hr0_0 hc0_0
 have HR0_1 := Aside0.mk hr0_1
 have HC0_1 := Aside0.mk hc0_1
 clear hr0_1 hc0_1
 have HB := Aside0.mk (Below.refl w.heap.size w)
 have H : ((spec_l4Reach.f k l0_0 l0_1 0 (-1)).bind fun t715 => (spec_l4Doms.l0 k (l0_0.length : Int) t715 (([] : List (List Bool))) 0 l0_0 l0_1)) = some r := h
 clear h
 replace H := Option.bind_eq_some_iff.mp H
 obtain ⟨t715, A20, H⟩ := H
 replace H : (spec_l4Doms.l0 k (l0_0.length : Int) t715 (([] : List (List Bool))) 0 l0_0 l0_1) = some r := H
 have A2 := Aside0.mk A20
 clear A20
 obtain ⟨y718, hy718⟩ : ∃ y_ : List (List Bool), y_ = (([] : List (List Bool))) := ⟨_, rfl⟩
 replace H : (spec_l4Doms.l0 k (l0_0.length : Int) t715 y718 0 l0_0 l0_1) = some r := by first | (rw [hy718]; with_reducible exact H) | (have H2_ := (Option.bind_some _ _).symm.trans H; rw [hy718]; with_reducible exact H2_) | (have H2_ := (Option.bind_some _ _).symm.trans H; with_reducible exact H2_) | with_reducible exact H | (rw [hy718]; exact H) | exact H
 have Ny718 := Aside0.mk hy718
 clear hy718
 have H' := Aside0.mk H
 clear H
 go_enter Try.func59, Try.ntmps59
 go_wp2_with (first | ((with_reducible refine gate_dst (N := 1) rfl ?_); refine box_event ?hg (N := 1) ?hd (cs := #[.slice A0_0 l0_0.length c0_0, .slice A0_1 l0_1.length c0_1]) (t := 52) ?hr ?_; (case hd => rfl); (case hg => rfl); (case hr => first | (go_simp; done) | (go_simp; rfl)); intro gb714 hg w3 hbox hb; have n0_ := Aside0.mk (below_step bz hb); have n1_ := Aside0.mk (hbox); have n2_ := Aside0.mk ((by rw [hg]; exact (below_size bz) : w.heap.size ≤ gb714)); have n3_ := Aside0.mk ((by rw [hg]; exact (below_size bz) : w.heap.size ≤ gb714)); clear HB; have HB := n0_; have BK714 := n1_; have GW714 := n2_; have GE714 := n3_; clear n0_ n1_ n2_ n3_; clear hb hbox hg; have hcz4_0 : w3.cell? ⟨gb714, 0, none⟩ = some (.slice A0_0 l0_0.length c0_0) := (blk_cell BK714.out 0).trans rfl; have hcz4_1 : w3.cell? ⟨gb714, 1, none⟩ = some (.slice A0_1 l0_1.length c0_1) := (blk_cell BK714.out 1).trans rfl; have hfz4_0 := blk_frozen BK714.out 0; have hfz4_1 := blk_frozen BK714.out 1) | ((with_reducible refine gate_callee (f := 46) rfl ?_); refine goesL_ (some 14) rfl rfl Try.func46 (by kernel_rfl) rfl #[.agg #[.slice A0_0 l0_0.length c0_0, .slice A0_1 l0_1.length c0_1], .int .i64 0, .int .i64 (-1)] rfl lz ?_; (with_reducible refine (spec_l4Reach.calls k _ _ l0_0 _ _ l0_1 0 (-1) t715 _ ?side1 ?side2 ?side3 ?side4 A2.out).mono ?_); (case side1 => exact cz HR0_0.out); (case side2 => exact HC0_0.out); (case side3 => exact cz HR0_1.out); (case side4 => exact HC0_1.out); rintro e w5 ⟨v716, rfl, ho0, hb⟩; refine ⟨_, rfl, ?_⟩; have n0_ := Aside0.mk (Kd.R_lower ho0 (below_size bz)); have n1_ := Aside0.mk (blk_below (g := gb714) (o := .cells #[.slice A0_0 l0_0.length c0_0, .slice A0_1 l0_1.length c0_1] 52 (0, 0)) kz hb); have n2_ := Aside0.mk (below_step bz hb); clear BK714; clear HB; have HO717 := n0_; have BK714 := n1_; have HB := n2_; clear n0_ n1_ n2_; (try clear hb); (try clear hb2); (try clear hk); (try clear hi); (try clear ho0)) | ((with_reducible refine gate_dst (N := 15) rfl ?_); refine Kd.S_lit (Kd.slice 4 Kd.bool) _ 54 ?hg (N := 15) ?hd (xs := ([] : List (List Bool))) (inner := []) (ok := fun _ => True) (okp := fun _ => True) ?hr ?hp (fun _ hk => hk) trivial (Below.refl _ _) (Nat.le_refl _) (by simp) ?_; (case hd => rfl); (case hg => rfl); (case hr => first | (go_simp; done) | (go_simp; rfl)); (case hp => exact (Reps.none _ _)); intro v719 w6 ho7 hb hg_ hnew_; clear hg_ hnew_; (first | rw [← Ny718.out] at ho7 | (simp only [Int.reduceToNat] at ho7; rw [← Ny718.out] at ho7)); have n0_ := Aside0.mk (Kd.R_below (rz HO717.out) hb); have n1_ := Aside0.mk (Kd.S_lower (Kd.S_new' ho7 (Kd.R_lt (rz HO717.out))) (below_size bz)); have n2_ := Aside0.mk (blk_below (g := gb714) (o := .cells #[.slice A0_0 l0_0.length c0_0, .slice A0_1 l0_1.length c0_1] 52 (0, 0)) kz hb); have n3_ := Aside0.mk (below_step bz hb); clear HO717; clear BK714; clear HB; have HO717 := n0_; have HO720 := n1_; have BK714 := n2_; have HB := n3_; clear n0_ n1_ n2_ n3_; clear hb ho7))
 go_loopg [5, 6] k (fun kq v5 v6 w' => ∃ (x4_1 : List Bool) (x5_1 : List (List Bool)) (x6_1 : Int), v6 = .int .i64 x6_1 ∧ Aside0 (spec_l4Doms.l0 kq (l0_0.length : Int) x4_1 x5_1 x6_1 l0_0 l0_1 = some r) ∧ Aside0 (kq ≤ k) ∧ Aside0 (Kd.R Kd.bool 4 w' w.heap.size (fun _ => True) v716 x4_1) ∧ Aside0 (Kd.S (Kd.slice 4 Kd.bool) 54 w' w.heap.size (fun k_ => some k_ ≠ (v716 : Value).ownBlock) v5 x5_1) ∧ Aside0 (w'.heap[gb714]? = some (.cells #[(.slice A0_0 l0_0.length c0_0), (.slice A0_1 l0_1.length c0_1)] 52 (0, 0))) ∧ Aside0 (Below w.heap.size w w'))
 case atStart => exact ⟨(t715), (y718), (0), sz_, H', ⟨Nat.le_refl _⟩, ⟨by (with_reducible repeat (first | apply Kd.R_alloc | apply Kd.R_drewN | apply Kd.R_drew)); exact HO717.out⟩, ⟨by (with_reducible repeat (first | apply Kd.S_alloc | apply Kd.S_drewN | apply Kd.S_drew)); exact Kd.S_mono HO720.out (fun _ hk => hk.2)⟩, ⟨ kz⟩, ⟨ bz⟩⟩
 case round =>
  clear H'
  try clear p2
  try clear c4
  try clear c5
  try clear hcz4_0
  try clear hcz4_1
  try clear hfz4_0
  try clear hfz4_1
  obtain ⟨x4_1, x5_1, x6_1, rfl, HA, HK1, HO_4, HO_5, BK714, HB⟩ := hrel
  cases gk with
  | zero => exact absurd HA.out (by simp [spec_l4Doms.l0])
  | succ k1 =>
   have H := HA.out
   clear HA
   simp only [spec_l4Doms.l0] at H
   by_cases c8 : x6_1 < (l0_0.length : Int)
   · rw [if_pos c8] at H
     have c8b0 : decide (x6_1 < (l0_0.length : Int)) = true := decide_eq_true c8
     clear c8
     replace H := Option.bind_eq_some_iff.mp H
     obtain ⟨t721, A90, H⟩ := H
     replace H : (if 0 ≤ (l0_0.length : Int) then (if ((l0_0.length : Int) : Int).toNat ≤ 281474976710656 then (spec_l4Doms.l1 k1 (l0_0.length : Int) x4_1 x5_1 x6_1 t721 (List.replicate ((l0_0.length : Int) : Int).toNat false) 0 l0_0 l0_1) else (none)) else (none)) = some r := H
     have A9 := Aside0.mk A90
     clear A90
     by_cases c10 : 0 ≤ (l0_0.length : Int)
     · rw [if_pos c10] at H
       have c10b0 := eq_true c10
       have c10b1 : decide (0 ≤ (l0_0.length : Int)) = true := decide_eq_true c10
       clear c10
       by_cases c11 : ((l0_0.length : Int) : Int).toNat ≤ 281474976710656
       · rw [if_pos c11] at H
         have c11b0 := eq_true c11
         have c11b1 : decide (((l0_0.length : Int) : Int).toNat ≤ 281474976710656) = true := decide_eq_true c11
         clear c11
         obtain ⟨y724, hy724⟩ : ∃ y_ : List Bool, y_ = (List.replicate ((l0_0.length : Int) : Int).toNat false) := ⟨_, rfl⟩
         replace H : (spec_l4Doms.l1 k1 (l0_0.length : Int) x4_1 x5_1 x6_1 t721 y724 0 l0_0 l0_1) = some r := by first | (rw [hy724]; with_reducible exact H) | (have H2_ := (Option.bind_some _ _).symm.trans H; rw [hy724]; with_reducible exact H2_) | (have H2_ := (Option.bind_some _ _).symm.trans H; with_reducible exact H2_) | with_reducible exact H | (rw [hy724]; exact H) | exact H
         have Ny724 := Aside0.mk hy724
         clear hy724
         have H' := Aside0.mk H
         clear H
         have hcz12_0 : wr.cell? ⟨gb714, 0, none⟩ = some (.slice A0_0 l0_0.length c0_0) := (blk_cell BK714.out 0).trans rfl
         have hcz12_1 : wr.cell? ⟨gb714, 1, none⟩ = some (.slice A0_1 l0_1.length c0_1) := (blk_cell BK714.out 1).trans rfl
         have hfz12_0 := blk_frozen BK714.out 0
         have hfz12_1 := blk_frozen BK714.out 1
         go_wp2_with (first | ((with_reducible refine gate_callee (f := 46) rfl ?_); refine goesL_ (some 23) rfl rfl Try.func46 (by kernel_rfl) rfl #[.agg #[.slice A0_0 l0_0.length c0_0, .slice A0_1 l0_1.length c0_1], .int .i64 0, .int .i64 x6_1] rfl lz ?_; (with_reducible refine (spec_l4Reach.calls k1 _ _ l0_0 _ _ l0_1 0 x6_1 t721 _ ?side1 ?side2 ?side3 ?side4 A9.out).mono ?_); (case side1 => exact cz HR0_0.out); (case side2 => exact HC0_0.out); (case side3 => exact cz HR0_1.out); (case side4 => exact HC0_1.out); rintro e w13 ⟨v722, rfl, ho0, hb⟩; refine ⟨_, rfl, ?_⟩; have n0_ := Aside0.mk (Kd.R_elder' (rz HO_4.out) (Kd.R_base ho0) hb); have n1_ := Aside0.mk (Kd.S_elder' (rs HO_5.out) (Kd.R_base ho0) hb); have n2_ := Aside0.mk (Kd.R_lower (Kd.R_new' ho0 (Kd.R_lt (rz HO_4.out))) (below_size bz)); have n3_ := Aside0.mk (blk_below (g := gb714) (o := .cells #[.slice A0_0 l0_0.length c0_0, .slice A0_1 l0_1.length c0_1] 52 (0, 0)) kz hb); have n4_ := Aside0.mk (below_step bz hb); clear HO_4; clear HO_5; clear BK714; clear HB; have HO_4 := n0_; have HO_5 := n1_; have HO723 := n2_; have BK714 := n3_; have HB := n4_; clear n0_ n1_ n2_ n3_ n4_; (try clear hb); (try clear hb2); (try clear hk); (try clear hi); (try clear ho0)) | ((with_reducible refine gate_dst (N := 25) rfl ?_); refine Kd.R_make Kd.bool _ 4 rfl (N := 25) rfl 54 _ _ rfl (l0_0.length : Int) rfl rfl Try.underlying54 (.bool false) 1 info4 rfl (by decide) (by omega) false (ok := fun _ => True) (okp := fun _ => True) rfl (fun _ hk => hk) trivial (of_decide_eq_true az) (Nat.le_trans (Nat.mul_le_mul_right _ (of_decide_eq_true az : (l0_0.length : Int).toNat ≤ 281474976710656)) (by omega)) (Below.refl _ _) (Nat.le_refl _) ?_; intro v725 w14 ho15 hb hg_ hnew_; clear hg_ hnew_; (first | rw [← Ny724.out] at ho15 | (simp only [Int.reduceToNat] at ho15; rw [← Ny724.out] at ho15)); have n0_ := Aside0.mk (Kd.R_elder' (rz HO_4.out) (Kd.R_base ho15) hb); have n1_ := Aside0.mk (Kd.S_elder' (rs HO_5.out) (Kd.R_base ho15) hb); have n2_ := Aside0.mk (Kd.R_elder' (rz HO723.out) (Kd.R_base ho15) hb); have n3_ := Aside0.mk (Kd.R_lower (Kd.R_new' (Kd.R_new' ho15 (Kd.R_lt (rz HO_4.out))) (Kd.R_lt (rz HO723.out))) (below_size bz)); have n4_ := Aside0.mk (blk_below (g := gb714) (o := .cells #[.slice A0_0 l0_0.length c0_0, .slice A0_1 l0_1.length c0_1] 52 (0, 0)) kz hb); have n5_ := Aside0.mk (below_step bz hb); clear HO_4; clear HO_5; clear HO723; clear BK714; clear HB; have HO_4 := n0_; have HO_5 := n1_; have HO723 := n2_; have HO726 := n3_; have BK714 := n4_; have HB := n5_; clear n0_ n1_ n2_ n3_ n4_ n5_; clear hb ho15))
         go_loopg [9] k1 (fun kq v9 w' => ∃ (x8_2 : List Bool) (x9_2 : Int), v9 = .int .i64 x9_2 ∧ Aside0 (spec_l4Doms.l1 kq (l0_0.length : Int) x4_1 x5_1 x6_1 t721 x8_2 x9_2 l0_0 l0_1 = some r) ∧ Aside0 (kq ≤ k1) ∧ Aside0 (Kd.R Kd.bool 4 w' w.heap.size (fun k_ => some k_ ≠ (v722 : Value).ownBlock ∧ some k_ ≠ (v725 : Value).ownBlock) v716 x4_1) ∧ Aside0 (Kd.S (Kd.slice 4 Kd.bool) 54 w' w.heap.size (fun k_ => some k_ ≠ (v716 : Value).ownBlock ∧ some k_ ≠ (v722 : Value).ownBlock ∧ some k_ ≠ (v725 : Value).ownBlock) u5 x5_1) ∧ Aside0 (Kd.R Kd.bool 4 w' w.heap.size (fun k_ => some k_ ≠ (v716 : Value).ownBlock ∧ some k_ ≠ (v725 : Value).ownBlock) v722 t721) ∧ Aside0 (Kd.R Kd.bool 4 w' w.heap.size (fun k_ => some k_ ≠ (v716 : Value).ownBlock ∧ some k_ ≠ (v722 : Value).ownBlock) v725 x8_2) ∧ Aside0 (w'.heap[gb714]? = some (.cells #[(.slice A0_0 l0_0.length c0_0), (.slice A0_1 l0_1.length c0_1)] 52 (0, 0))) ∧ Aside0 (Below w.heap.size w w'))
         case atStart => exact ⟨(y724), (0), sz_, H', ⟨Nat.le_refl _⟩, ⟨by (with_reducible repeat (first | apply Kd.R_alloc | apply Kd.R_drewN | apply Kd.R_drew)); exact Kd.R_mono HO_4.out (fun _ hk => ⟨hk.1.2, hk.2⟩)⟩, ⟨by (with_reducible repeat (first | apply Kd.S_alloc | apply Kd.S_drewN | apply Kd.S_drew)); exact Kd.S_mono HO_5.out (fun _ hk => ⟨hk.1.1, ⟨hk.1.2, hk.2⟩⟩)⟩, ⟨by (with_reducible repeat (first | apply Kd.R_alloc | apply Kd.R_drewN | apply Kd.R_drew)); exact Kd.R_mono HO723.out (fun _ hk => ⟨hk.1.2, hk.2⟩)⟩, ⟨by (with_reducible repeat (first | apply Kd.R_alloc | apply Kd.R_drewN | apply Kd.R_drew)); exact Kd.R_mono HO726.out (fun _ hk => ⟨hk.1.2, hk.2⟩)⟩, ⟨ kz⟩, ⟨ bz⟩⟩
         case round =>
          clear H'
          try clear c1
          try clear p2
          try clear c4
          try clear c5
          try clear c8
          try clear c8b0
          try clear c10
          try clear c10b0
          try clear c10b1
          try clear c11
          try clear c11b0
          try clear c11b1
          try clear hcz12_0
          try clear hcz12_1
          try clear hcz4_0
          try clear hcz4_1
          try clear hfz12_0
          try clear hfz12_1
          try clear hfz4_0
          try clear hfz4_1
          try clear p2
          obtain ⟨x8_2, x9_2, rfl, HA, HK2, HO_4, HO_5, HO_7, HO_8, BK714, HB⟩ := hrel
          cases gk with
          | zero => exact absurd HA.out (by simp [spec_l4Doms.l1])
          | succ k2 =>
           have H := HA.out
           clear HA
           simp only [spec_l4Doms.l1] at H
           by_cases c16 : x9_2 < (l0_0.length : Int)
           · rw [if_pos c16] at H
             have c16b0 : decide (x9_2 < (l0_0.length : Int)) = true := decide_eq_true c16
             clear c16
             by_cases c17 : 0 ≤ x9_2
             · rw [if_pos c17] at H
               have c17b0 : decide (0 ≤ x9_2) = true := decide_eq_true c17
               clear c17
               by_cases c18 : x9_2 < (x4_1.length : Int)
               · rw [if_pos c18] at H
                 have c18b0 : decide (x9_2 < (x4_1.length : Int)) = true := decide_eq_true c18
                 clear c18
                 obtain ⟨bq19, hbq19⟩ : ∃ b_ : Bool, b_ = (rdOf false x4_1 x9_2) := ⟨_, rfl⟩
                 replace H : (if bq19 = true then (if x9_2 < (t721.length : Int) then (if x9_2 < (x8_2.length : Int) then (spec_l4Doms.l1 k2 (l0_0.length : Int) x4_1 x5_1 x6_1 t721 (x8_2.set (x9_2 : Int).toNat (!(rdOf false t721 x9_2))) (wrap64 (x9_2 + 1)) l0_0 l0_1) else (none)) else (none)) else (if x9_2 < (x8_2.length : Int) then (spec_l4Doms.l1 k2 (l0_0.length : Int) x4_1 x5_1 x6_1 t721 (x8_2.set (x9_2 : Int).toNat false) (wrap64 (x9_2 + 1)) l0_0 l0_1) else (none))) = some r := by rw [← hbq19] at H; exact H
                 have Nbq19 := Aside0.mk hbq19
                 clear hbq19
                 by_cases c20 : bq19 = true
                 · subst c20
                   have H1 : (if x9_2 < (t721.length : Int) then (if x9_2 < (x8_2.length : Int) then (spec_l4Doms.l1 k2 (l0_0.length : Int) x4_1 x5_1 x6_1 t721 (x8_2.set (x9_2 : Int).toNat (!(rdOf false t721 x9_2))) (wrap64 (x9_2 + 1)) l0_0 l0_1) else (none)) else (none)) = some r := by rw [if_pos rfl] at H; exact H
                   clear H
                   have H := H1
                   clear H1
                   by_cases c21 : x9_2 < (t721.length : Int)
                   · rw [if_pos c21] at H
                     have c21b0 : decide (x9_2 < (t721.length : Int)) = true := decide_eq_true c21
                     clear c21
                     by_cases c22 : x9_2 < (x8_2.length : Int)
                     · rw [if_pos c22] at H
                       have c22b0 : decide (x9_2 < (x8_2.length : Int)) = true := decide_eq_true c22
                       clear c22
                       obtain ⟨y729, hy729⟩ : ∃ y_ : List Bool, y_ = (x8_2.set (x9_2 : Int).toNat (!(rdOf false t721 x9_2))) := ⟨_, rfl⟩
                       replace H : (spec_l4Doms.l1 k2 (l0_0.length : Int) x4_1 x5_1 x6_1 t721 y729 (wrap64 (x9_2 + 1)) l0_0 l0_1) = some r := by first | (rw [hy729]; with_reducible exact H) | (have H2_ := (Option.bind_some _ _).symm.trans H; rw [hy729]; with_reducible exact H2_) | (have H2_ := (Option.bind_some _ _).symm.trans H; with_reducible exact H2_) | with_reducible exact H | (rw [hy729]; exact H) | exact H
                       have Ny729 := Aside0.mk hy729
                       clear hy729
                       have H' := Aside0.mk H
                       clear H
                       obtain ⟨Ao24, co24, eo24⟩ := Kd.R_slice HO_4.out
                       subst eo24
                       have p727 : 0 ≤ (x9_2 : Int) := of_decide_eq_true az
                       have q727 : x9_2 < (x4_1.length : Int) := of_decide_eq_true az
                       obtain ⟨ad727, e727, hx727_0⟩ := Kd.at_bool (Kd.R_reads' HO_4.out).2.2 x9_2 p727 q727
                       (try rw [← Nbq19.out] at hx727_0)
                       cases e727
                       replace p727 := eq_true p727
                       replace q727 := eq_true q727
                       obtain ⟨Ao25, co25, eo25⟩ := Kd.R_slice HO_7.out
                       subst eo25
                       have p728 : 0 ≤ (x9_2 : Int) := of_decide_eq_true az
                       have q728 : x9_2 < (t721.length : Int) := of_decide_eq_true az
                       obtain ⟨ad728, e728, hx728_0⟩ := Kd.at_bool (Kd.R_reads' HO_7.out).2.2 x9_2 p728 q728
                       (try rw [← Nbq19.out] at hx728_0)
                       cases e728
                       replace p728 := eq_true p728
                       replace q728 := eq_true q728
                       have p23 : 0 ≤ (x9_2 : Int) := of_decide_eq_true az
                       have q23 : (x9_2 : Int) < ((x8_2.length : Int) : Int) := of_decide_eq_true az
                       obtain ⟨go23, co23, eo23, gb23, gl23, cl23, HG23⟩ := Kd.R_form HO_8.out (by omega)
                       (first | cases eo23 | (injection eo23 with ea_ en_ ec_; (first | subst ea_ | (injection ea_ with ea_; subst ea_)); subst ec_; clear en_))
                       have GB23 := Aside0.mk gb23
                       have GG23 := Aside0.mk HG23
                       clear gb23 gl23 HG23
                       obtain ⟨hx23_0, hf23_0⟩ := Kd.R_celln false HO_8.out (x9_2 : Int) p23 q23
                       replace p23 := eq_true p23
                       replace q23 := eq_true q23
                       have HP26 := Kd.R_putg HO_8.out (x9_2 : Int) (!(rdOf false t721 x9_2))
                       go_wp2_with (first | ((with_reducible refine gate_store (t := 4) (p := 44) rfl ?_); refine store_event (t := 4) (p := 44) (v := ?vo_w27) (w1 := (wr.setCell ⟨go23, (x9_2 : Int).toNat, none⟩ (.bool (!(rdOf false t721 x9_2))))) ?hg ?ho ?hn ?hr ?_; (case ho => rfl); (case hg => rfl); (case hn => rfl); (case hr => first | (go_simp; done) | (go_simp; rfl)); intro w27 hw; have hg : wr.grownBy w27 (some go23) := (by rw [hw]; exact HP26.2); have hp_ : Kd.R Kd.bool 4 w27 w.heap.size (fun k_ => some k_ ≠ (.slice (some ad727) x4_1.length co24 : Value).ownBlock ∧ some k_ ≠ (.slice (some ad728) t721.length co25 : Value).ownBlock) (.slice (some ⟨go23, 0, none⟩) x8_2.length co23) y729 := (by rw [hw, Ny729.out]; exact HP26.1); clear HP26; have n0_ := Aside0.mk (Kd.R_after (v := (.slice (some ⟨go23, 0, none⟩) x8_2.length co23)) (v1 := (.slice (some ⟨go23, 0, none⟩) x8_2.length co23)) (ok := (fun k_ => some k_ ≠ (.slice (some ad728) t721.length co25 : Value).ownBlock)) (rz HO_4.out) hg (.inl rfl)); have n1_ := Aside0.mk (Kd.S_after (v := (.slice (some ⟨go23, 0, none⟩) x8_2.length co23)) (v1 := (.slice (some ⟨go23, 0, none⟩) x8_2.length co23)) (ok := (fun k_ => some k_ ≠ (.slice (some ad727) x4_1.length co24 : Value).ownBlock ∧ some k_ ≠ (.slice (some ad728) t721.length co25 : Value).ownBlock)) (by (with_reducible repeat (first | apply Kd.S_alloc | apply Kd.S_drewN | apply Kd.S_drew)); exact Kd.S_mono HO_5.out (fun _ hk => ⟨⟨hk.1, hk.2.1⟩, hk.2.2⟩)) hg (.inl rfl)); have n2_ := Aside0.mk (Kd.R_after (v := (.slice (some ⟨go23, 0, none⟩) x8_2.length co23)) (v1 := (.slice (some ⟨go23, 0, none⟩) x8_2.length co23)) (ok := (fun k_ => some k_ ≠ (.slice (some ad727) x4_1.length co24 : Value).ownBlock)) (rz HO_7.out) hg (.inl rfl)); have n3_ := Aside0.mk (hp_); have n4_ := Aside0.mk (blk_grown (g := gb714) (o := .cells #[.slice A0_0 l0_0.length c0_0, .slice A0_1 l0_1.length c0_1] 52 (0, 0)) kz hg (Kd.R_ne HO_8.out BK714.out (by decide))); have n5_ := Aside0.mk ((by rw [hw]; exact below_set (HB.out) GB23.out : Below w.heap.size w w27)); clear HO_4; clear HO_5; clear HO_7; clear HO_8; clear BK714; clear HB; have HO_4 := n0_; have HO_5 := n1_; have HO_7 := n2_; have HO_8 := n3_; have BK714 := n4_; have HB := n5_; clear n0_ n1_ n2_ n3_ n4_ n5_; clear hg hw hp_))
                       go_roundg k2
                       case measure => have := HK1.out; have := HK2.out; omega
                       case rel => exact ⟨(y729), (wrap64 (x9_2 + 1)), sz_, H', ⟨by have := HK1.out; have := HK2.out; omega⟩, ⟨by (with_reducible repeat (first | apply Kd.R_alloc | apply Kd.R_drewN | apply Kd.R_drew)); exact HO_4.out⟩, ⟨by (with_reducible repeat (first | apply Kd.S_alloc | apply Kd.S_drewN | apply Kd.S_drew)); exact Kd.S_mono HO_5.out (fun _ hk => ⟨hk.1.1, ⟨hk.1.2, hk.2⟩⟩)⟩, ⟨by (with_reducible repeat (first | apply Kd.R_alloc | apply Kd.R_drewN | apply Kd.R_drew)); exact HO_7.out⟩, ⟨by (with_reducible repeat (first | apply Kd.R_alloc | apply Kd.R_drewN | apply Kd.R_drew)); exact HO_8.out⟩, ⟨ kz⟩, ⟨ bz⟩⟩
                     · rw [if_neg c22] at H
                       exact absurd H (by simp)
                   · rw [if_neg c21] at H
                     exact absurd H (by simp)
                 · replace c20 := Bool.eq_false_iff.mpr c20
                   subst c20
                   have H1 : (if x9_2 < (x8_2.length : Int) then (spec_l4Doms.l1 k2 (l0_0.length : Int) x4_1 x5_1 x6_1 t721 (x8_2.set (x9_2 : Int).toNat false) (wrap64 (x9_2 + 1)) l0_0 l0_1) else (none)) = some r := by rw [if_neg (show ¬ (false = true) by decide)] at H; exact H
                   clear H
                   have H := H1
                   clear H1
                   by_cases c28 : x9_2 < (x8_2.length : Int)
                   · rw [if_pos c28] at H
                     have c28b0 : decide (x9_2 < (x8_2.length : Int)) = true := decide_eq_true c28
                     clear c28
                     obtain ⟨y730, hy730⟩ : ∃ y_ : List Bool, y_ = (x8_2.set (x9_2 : Int).toNat false) := ⟨_, rfl⟩
                     replace H : (spec_l4Doms.l1 k2 (l0_0.length : Int) x4_1 x5_1 x6_1 t721 y730 (wrap64 (x9_2 + 1)) l0_0 l0_1) = some r := by first | (rw [hy730]; with_reducible exact H) | (have H2_ := (Option.bind_some _ _).symm.trans H; rw [hy730]; with_reducible exact H2_) | (have H2_ := (Option.bind_some _ _).symm.trans H; with_reducible exact H2_) | with_reducible exact H | (rw [hy730]; exact H) | exact H
                     have Ny730 := Aside0.mk hy730
                     clear hy730
                     have H' := Aside0.mk H
                     clear H
                     obtain ⟨Ao30, co30, eo30⟩ := Kd.R_slice HO_4.out
                     subst eo30
                     have p727 : 0 ≤ (x9_2 : Int) := of_decide_eq_true az
                     have q727 : x9_2 < (x4_1.length : Int) := of_decide_eq_true az
                     obtain ⟨ad727, e727, hx727_0⟩ := Kd.at_bool (Kd.R_reads' HO_4.out).2.2 x9_2 p727 q727
                     (try rw [← Nbq19.out] at hx727_0)
                     cases e727
                     replace p727 := eq_true p727
                     replace q727 := eq_true q727
                     have p29 : 0 ≤ (x9_2 : Int) := of_decide_eq_true az
                     have q29 : (x9_2 : Int) < ((x8_2.length : Int) : Int) := of_decide_eq_true az
                     obtain ⟨go29, co29, eo29, gb29, gl29, cl29, HG29⟩ := Kd.R_form HO_8.out (by omega)
                     (first | cases eo29 | (injection eo29 with ea_ en_ ec_; (first | subst ea_ | (injection ea_ with ea_; subst ea_)); subst ec_; clear en_))
                     have GB29 := Aside0.mk gb29
                     have GG29 := Aside0.mk HG29
                     clear gb29 gl29 HG29
                     obtain ⟨hx29_0, hf29_0⟩ := Kd.R_celln false HO_8.out (x9_2 : Int) p29 q29
                     replace p29 := eq_true p29
                     replace q29 := eq_true q29
                     have HP31 := Kd.R_putg HO_8.out (x9_2 : Int) false
                     go_wp2_with (first | ((with_reducible refine gate_store (t := 4) (p := 44) rfl ?_); refine store_event (t := 4) (p := 44) (v := ?vo_w32) (w1 := (wr.setCell ⟨go29, (x9_2 : Int).toNat, none⟩ (.bool false))) ?hg ?ho ?hn ?hr ?_; (case ho => rfl); (case hg => rfl); (case hn => rfl); (case hr => first | (go_simp; done) | (go_simp; rfl)); intro w32 hw; have hg : wr.grownBy w32 (some go29) := (by rw [hw]; exact HP31.2); have hp_ : Kd.R Kd.bool 4 w32 w.heap.size (fun k_ => some k_ ≠ (.slice (some ad727) x4_1.length co30 : Value).ownBlock ∧ some k_ ≠ (v722 : Value).ownBlock) (.slice (some ⟨go29, 0, none⟩) x8_2.length co29) y730 := (by rw [hw, Ny730.out]; exact HP31.1); clear HP31; have n0_ := Aside0.mk (Kd.R_after (v := (.slice (some ⟨go29, 0, none⟩) x8_2.length co29)) (v1 := (.slice (some ⟨go29, 0, none⟩) x8_2.length co29)) (ok := (fun k_ => some k_ ≠ (v722 : Value).ownBlock)) (rz HO_4.out) hg (.inl rfl)); have n1_ := Aside0.mk (Kd.S_after (v := (.slice (some ⟨go29, 0, none⟩) x8_2.length co29)) (v1 := (.slice (some ⟨go29, 0, none⟩) x8_2.length co29)) (ok := (fun k_ => some k_ ≠ (.slice (some ad727) x4_1.length co30 : Value).ownBlock ∧ some k_ ≠ (v722 : Value).ownBlock)) (by (with_reducible repeat (first | apply Kd.S_alloc | apply Kd.S_drewN | apply Kd.S_drew)); exact Kd.S_mono HO_5.out (fun _ hk => ⟨⟨hk.1, hk.2.1⟩, hk.2.2⟩)) hg (.inl rfl)); have n2_ := Aside0.mk (Kd.R_after (v := (.slice (some ⟨go29, 0, none⟩) x8_2.length co29)) (v1 := (.slice (some ⟨go29, 0, none⟩) x8_2.length co29)) (ok := (fun k_ => some k_ ≠ (.slice (some ad727) x4_1.length co30 : Value).ownBlock)) (rz HO_7.out) hg (.inl rfl)); have n3_ := Aside0.mk (hp_); have n4_ := Aside0.mk (blk_grown (g := gb714) (o := .cells #[.slice A0_0 l0_0.length c0_0, .slice A0_1 l0_1.length c0_1] 52 (0, 0)) kz hg (Kd.R_ne HO_8.out BK714.out (by decide))); have n5_ := Aside0.mk ((by rw [hw]; exact below_set (HB.out) GB29.out : Below w.heap.size w w32)); clear HO_4; clear HO_5; clear HO_7; clear HO_8; clear BK714; clear HB; have HO_4 := n0_; have HO_5 := n1_; have HO_7 := n2_; have HO_8 := n3_; have BK714 := n4_; have HB := n5_; clear n0_ n1_ n2_ n3_ n4_ n5_; clear hg hw hp_))
                     go_roundg k2
                     case measure => have := HK1.out; have := HK2.out; omega
                     case rel => exact ⟨(y730), (wrap64 (x9_2 + 1)), sz_, H', ⟨by have := HK1.out; have := HK2.out; omega⟩, ⟨by (with_reducible repeat (first | apply Kd.R_alloc | apply Kd.R_drewN | apply Kd.R_drew)); exact HO_4.out⟩, ⟨by (with_reducible repeat (first | apply Kd.S_alloc | apply Kd.S_drewN | apply Kd.S_drew)); exact Kd.S_mono HO_5.out (fun _ hk => ⟨hk.1.1, ⟨hk.1.2, hk.2⟩⟩)⟩, ⟨by (with_reducible repeat (first | apply Kd.R_alloc | apply Kd.R_drewN | apply Kd.R_drew)); exact HO_7.out⟩, ⟨by (with_reducible repeat (first | apply Kd.R_alloc | apply Kd.R_drewN | apply Kd.R_drew)); exact HO_8.out⟩, ⟨ kz⟩, ⟨ bz⟩⟩
                   · rw [if_neg c28] at H
                     exact absurd H (by simp)
               · rw [if_neg c18] at H
                 exact absurd H (by simp)
             · rw [if_neg c17] at H
               exact absurd H (by simp)
           · rw [if_neg c16] at H
             have c16b0 : decide (x9_2 < (l0_0.length : Int)) = false := decide_eq_false c16
             clear c16
             by_cases c33 : x5_1.length < 5864062014805
             · rw [if_pos c33] at H
               have LMc33 := Aside0.mk c33
               clear c33
               obtain ⟨y731, hy731⟩ : ∃ y_ : List (List Bool), y_ = (x5_1 ++ [x8_2]) := ⟨_, rfl⟩
               replace H : (spec_l4Doms.l0 k2 (l0_0.length : Int) x4_1 y731 (wrap64 (x6_1 + 1)) l0_0 l0_1) = some r := by first | (rw [hy731]; with_reducible exact H) | (have H2_ := (Option.bind_some _ _).symm.trans H; rw [hy731]; with_reducible exact H2_) | (have H2_ := (Option.bind_some _ _).symm.trans H; with_reducible exact H2_) | with_reducible exact H | (rw [hy731]; exact H) | exact H
               have Ny731 := Aside0.mk hy731
               clear hy731
               have H' := Aside0.mk H
               clear H
               obtain ⟨Ao35, co35, eo35⟩ := Kd.R_slice HO_8.out
               subst eo35
               go_wp2_with (first | ((with_reducible refine gate_builtin (b := .append) (xs := #[.tmp 45, .tmp 47]) rfl ?_); at_builtin; refine Kd.S_append (Kd.slice 4 Kd.bool) (w0 := w) w.heap.size rfl (.tmp 45) (.tmp 47) 80 54 (.slice none 0 0) 24 rfl Try.underlying80 info54 rfl (by decide) (by omega) u5 x5_1 x8_2 [.slice Ao35 x8_2.length co35] (fun k_ => some k_ ≠ (v716 : Value).ownBlock ∧ some k_ ≠ (v722 : Value).ownBlock) (fun k_ => some k_ = (.slice Ao35 x8_2.length co35 : Value).ownBlock) rfl rfl ?aP (fun k_ hk_ => ((Kd.R_mono (ok' := fun k_ => ((fun k_ => some k_ ≠ (v716 : Value).ownBlock ∧ some k_ ≠ (v722 : Value).ownBlock)) k_ ∧ some k_ ≠ (u5 : Value).ownBlock) (Kd.R_apart' (HO_8.out) (Kd.S_typed HO_5.out) (by decide)) (fun k_ hk => ⟨⟨hk.1.1, hk.1.2⟩, hk.2⟩))).1 k_ hk_.symm) ?aF ?aO ?aB ?aS ?aL ?_; (case aP => exact Kd.M_row (Kd.R_mono (Kd.R_tight rfl (Kd.R_mono (ok' := fun k_ => ((fun k_ => some k_ ≠ (v716 : Value).ownBlock ∧ some k_ ≠ (v722 : Value).ownBlock)) k_ ∧ some k_ ≠ (u5 : Value).ownBlock) (Kd.R_apart' (HO_8.out) (Kd.S_typed HO_5.out) (by decide)) (fun k_ hk => ⟨⟨hk.1.1, hk.1.2⟩, hk.2⟩))) (fun _ h_ => h_))); (case aB => exact bz); (case aF => exact (fun k_ hk => ⟨Kd.fresh' (Kd.R_lt (rz HO_4.out)) k_ hk, Kd.fresh' (Kd.R_lt (rz HO_7.out)) k_ hk⟩)); (case aO => exact (by (with_reducible repeat (first | apply Kd.S_alloc | apply Kd.S_drewN | apply Kd.S_drew)); exact Kd.S_mono HO_5.out (fun k_ hk => ⟨⟨hk.1, hk.2.1⟩, fun e_ => hk.2.2 e_⟩))); (case aS => exact (below_size bz)); (case aL => have := LMc33.out; omega); intro v732 w34 ho hb hg hat; rw [← Ny731.out] at ho; have n0_ := Aside0.mk (Kd.R_over' (rz HO_4.out) (Kd.S_typed (rs HO_5.out)) (by decide) hg); have n1_ := Aside0.mk (Kd.R_over' (rz HO_7.out) (Kd.S_typed (rs HO_5.out)) (by decide) hg); have n2_ := Aside0.mk (blk_grown (g := gb714) (o := .cells #[.slice A0_0 l0_0.length c0_0, .slice A0_1 l0_1.length c0_1] 52 (0, 0)) kz hg (Kd.S_ne HO_5.out BK714.out (by decide))); have n3_ := Aside0.mk (hb); have n4_ := Aside0.mk (ho); clear HO_4; clear HO_7; clear BK714; clear HB; clear HO_5; clear HO_8; have HO_4 := n0_; have HO_7 := n1_; have BK714 := n2_; have HB := n3_; have HO733 := n4_; clear n0_ n1_ n2_ n3_ n4_; clear ho hb hg hat))
               go_roundg k2
               case measure => have := HK1.out; have := HK2.out; omega
               case rel => exact ⟨(x4_1), (y731), (wrap64 (x6_1 + 1)), sz_, H', ⟨by have := HK1.out; have := HK2.out; omega⟩, ⟨by (with_reducible repeat (first | apply Kd.R_alloc | apply Kd.R_drewN | apply Kd.R_drew)); exact Kd.R_mono HO_4.out (fun _ hk => trivial)⟩, ⟨by (with_reducible repeat (first | apply Kd.S_alloc | apply Kd.S_drewN | apply Kd.S_drew)); exact Kd.S_mono HO733.out (fun _ hk => hk.1)⟩, ⟨ kz⟩, ⟨ bz⟩⟩
             · rw [if_neg c33] at H
               exact absurd H (by simp)
       · rw [if_neg c11] at H
         exact absurd H (by simp)
     · rw [if_neg c10] at H
       exact absurd H (by simp)
   · rw [if_neg c8] at H
     have c8b0 : decide (x6_1 < (l0_0.length : Int)) = false := decide_eq_false c8
     clear c8
     obtain rfl := Option.some.inj H
     go_wp2
     go_ret
     exact ⟨_, by first | rfl | (simp [errW_none, errW_some] <;> rfl) | (simp [*, errW_none, errW_some] <;> rfl), by (with_reducible repeat (first | apply Kd.S_alloc | apply Kd.S_drewN | apply Kd.S_drew)); exact Kd.S_mono HO_5.out (fun _ hk => trivial), bz⟩

set_option linter.unusedVariables false
set_option linter.unusedSimpArgs false

mutual
def spec_l4Loops.l0 : Nat → List (List Bool) → List (S86) → Int → Int → List (List Int) → List (List Int) → Option ((List (S86)))
 | 0, _, _, _, _, _, _ => none
 | k + 1, x1, x5, x6, x7, x946000, x946001 => if x7 < x6 then (spec_l4Loops.l1 k x1 x5 x6 x7 (([] : List Int)) 0 x946000 x946001) else (some x5)
def spec_l4Loops.l1 : Nat → List (List Bool) → List (S86) → Int → Int → List Int → Int → List (List Int) → List (List Int) → Option ((List (S86)))
 | 0, _, _, _, _, _, _, _, _ => none
 | k + 1, x1, x5, x6, x7, x8, x9, x946000, x946001 => if 0 ≤ x7 then (if x7 < (x946001.length : Int) then (if x9 < ((rd_L4 x946001 x7).length : Int) then (if x7 < (x1.length : Int) then (if 0 ≤ x9 then (if 0 ≤ (rd (rd_L4 x946001 x7) x9) then (if (rd (rd_L4 x946001 x7) x9) < ((rd_L19 x1 x7).length : Int) then (if rdOf false (rd_L19 x1 x7) (rd (rd_L4 x946001 x7) x9) = true then (if x8.length < 17592186044416 then (spec_l4Loops.l1 k x1 x5 x6 x7 (x8 ++ [rd (rd_L4 x946001 x7) x9]) (wrap64 (x9 + 1)) x946000 x946001) else (none)) else (spec_l4Loops.l1 k x1 x5 x6 x7 x8 (wrap64 (x9 + 1)) x946000 x946001)) else (none)) else (none)) else (none)) else (none)) else (if (x8.length : Int) = 0 then (spec_l4Loops.l0 k x1 x5 x6 (wrap64 (x7 + 1)) x946000 x946001) else (if 0 ≤ x6 then (if (x6 : Int).toNat ≤ 281474976710656 then ((some (List.replicate (x6 : Int).toNat false : List Bool)).bind fun y962 => (if x7 < (y962.length : Int) then (spec_l4Loops.l2 k x1 x5 x6 x7 (y962.set (x7 : Int).toNat true) x8 x946000 x946001) else (none))) else (none)) else (none)))) else (none)) else (none)
def spec_l4Loops.l2 : Nat → List (List Bool) → List (S86) → Int → Int → List Bool → List Int → List (List Int) → List (List Int) → Option ((List (S86)))
 | 0, _, _, _, _, _, _, _, _ => none
 | k + 1, x1, x5, x6, x7, x10, x11, x946000, x946001 => if (x11.length : Int) > 0 then (if 0 < (x11.length : Int) then (if 1 ≤ (x11.length : Int) then ((some (x11.drop (1 : Int).toNat : List Int)).bind fun y967 => (if 0 ≤ (rd x11 0) then (if (rd x11 0) < (x10.length : Int) then (if rdOf false x10 (rd x11 0) = true then (spec_l4Loops.l2 k x1 x5 x6 x7 x10 y967 x946000 x946001) else (if 0 < (x1.length : Int) then (if (rd x11 0) < ((rd_L19 x1 0).length : Int) then (if (rdOf false (rd_L19 x1 0) (rd x11 0) = true) then ((some (([] : List Int) : List Int)).bind fun y974 => (if y974.length + y967.length < 17592186044416 then ((some (y974 ++ y967 : List Int)).bind fun y977 => (if (rd x11 0) < (x946001.length : Int) then (if y977.length + (rd_L4 x946001 (rd x11 0)).length < 17592186044416 then (spec_l4Loops.l2 k x1 x5 x6 x7 (x10.set ((rd x11 0) : Int).toNat true) (y977 ++ (rd_L4 x946001 (rd x11 0))) x946000 x946001) else (none)) else (none))) else (none))) else (spec_l4Loops.l2 k x1 x5 x6 x7 x10 y967 x946000 x946001)) else (none)) else (none))) else (none)) else (none))) else (none)) else (none)) else (spec_l4Loops.l3 k x1 x5 x6 x7 x10 0 x946000 x946001 x7 ([] : List Int))
def spec_l4Loops.l3 : Nat → List (List Bool) → List (S86) → Int → Int → List Bool → Int → List (List Int) → List (List Int) → Int → List Int → Option ((List (S86)))
 | 0, _, _, _, _, _, _, _, _, _, _ => none
 | k + 1, x1, x5, x6, x7, x10, x14, x946000, x946001, x985000, x985001 => if x14 < x6 then (if 0 ≤ x14 then (if x14 < (x10.length : Int) then (if rdOf false x10 x14 = true then (if x985001.length < 17592186044416 then (spec_l4Loops.l3 k x1 x5 x6 x7 x10 (wrap64 (x14 + 1)) x946000 x946001 x985000 (x985001 ++ [x14])) else (none)) else (spec_l4Loops.l3 k x1 x5 x6 x7 x10 (wrap64 (x14 + 1)) x946000 x946001 x985000 x985001)) else (none)) else (none)) else (if x5.length < 4398046511104 then (spec_l4Loops.l0 k x1 (x5 ++ [(⟨x985000, x985001⟩ : S86)]) x6 (wrap64 (x7 + 1)) x946000 x946001) else (none))
end
def spec_l4Loops.f (k : Nat) (l0_0 : List (List Int)) (l0_1 : List (List Int)) (l1 : List (List Bool)) : Option ((List (S86))) := spec_l4Loops.l0 k l1 (([] : List (S86))) (l0_0.length : Int) 0 l0_0 l0_1
def spec_l4Loops.T10 : Bool × List (List Nat × List Nat) := (true, [([], []), ([], []), ([0, 1], [0, 1]), ([2], [2]), ([], []), ([4], [4]), ([], []), ([5, 6], [5, 6]), ([7], [7]), ([], []), ([8, 9], [8, 9]), ([10], [10]), ([3, 11], [3, 11]), ([12], [12])])
def spec_l4Loops.B10 : List Nat := [0, 0, 3, 7, 0, 16, 0, 112, 240, 0, 1008, 2032, 4095, 8191]
theorem spec_l4Loops.tab10 : rtab .any (opsOf Try.f62 10) = spec_l4Loops.T10 := by kernel_rfl
theorem spec_l4Loops.bits10 : waitsOk spec_l4Loops.T10.2 spec_l4Loops.B10 = true := by kernel_rfl
def spec_l4Loops.T21 : Bool × List (List Nat × List Nat) := (true, [([], []), ([], []), ([0, 1], [0, 1]), ([], []), ([3], [3]), ([], []), ([4, 5], [4, 5]), ([6], [6]), ([2, 7, 2], [2, 7]), ([8, 8, 0, 1, 2, 3, 4, 5, 6, 7, 8], [1, 8])])
def spec_l4Loops.B21 : List Nat := [0, 0, 3, 0, 8, 0, 56, 120, 255, 511]
theorem spec_l4Loops.tab21 : rtab .any (opsOf Try.f62 21) = spec_l4Loops.T21 := by kernel_rfl
theorem spec_l4Loops.bits21 : waitsOk spec_l4Loops.T21.2 spec_l4Loops.B21 = true := by kernel_rfl
set_option maxHeartbeats 8000000 in
set_option maxRecDepth 100000 in
theorem spec_l4Loops.calls (k : Nat) (A0_0 : Option Addr) (c0_0 : Nat) (l0_0 : List (List Int)) (A0_1 : Option Addr) (c0_1 : Nat) (l0_1 : List (List Int)) (A1 : Option Addr) (c1 : Nat) (l1 : List (List Bool)) (r : List (S86)) (w : World) (hr0_0 : Kd.C (Kd.slice 2 (Kd.int .i64)) w A0_0 l0_0.length l0_0) (hc0_0 : l0_0.length ≤ c0_0) (hr0_1 : Kd.C (Kd.slice 2 (Kd.int .i64)) w A0_1 l0_1.length l0_1) (hc0_1 : l0_1.length ≤ c0_1) (hr1 : Kd.C (Kd.slice 4 Kd.bool) w A1 l1.length l1) (hc1 : l1.length ≤ c1) (h : spec_l4Loops.f k l0_0 l0_1 l1 = some r) :
 Calls Try.prog 62 #[.agg #[.slice A0_0 l0_0.length c0_0, .slice A0_1 l0_1.length c0_1], .slice A1 l1.length c1] w fun e w' => ∃ v0_ : Value, e = .returned (v0_) ∧ Kd.S k86 86 w' w.heap.size (fun _ => True) v0_ r ∧ Below w.heap.size w w' := by
 have hu52 := Try.underlying52
 have hu86 := Try.underlying86
 have HR0_0 := Aside0.mk hr0_0
 have HC0_0 := Aside0.mk hc0_0
 clear hr0_0 hc0_0
 have HR0_1 := Aside0.mk hr0_1
 have HC0_1 := Aside0.mk hc0_1
 clear hr0_1 hc0_1
 have HR1 := Aside0.mk hr1
 have HC1 := Aside0.mk hc1
 clear hr1 hc1
 have HB := Aside0.mk (Below.refl w.heap.size w)
 have H : (spec_l4Loops.l0 k l1 (([] : List (S86))) (l0_0.length : Int) 0 l0_0 l0_1) = some r := h
 clear h
 obtain ⟨y946, hy946⟩ : ∃ y_ : List (S86), y_ = (([] : List (S86))) := ⟨_, rfl⟩
 replace H : (spec_l4Loops.l0 k l1 y946 (l0_0.length : Int) 0 l0_0 l0_1) = some r := by first | (rw [hy946]; with_reducible exact H) | (have H2_ := (Option.bind_some _ _).symm.trans H; rw [hy946]; with_reducible exact H2_) | (have H2_ := (Option.bind_some _ _).symm.trans H; with_reducible exact H2_) | with_reducible exact H | (rw [hy946]; exact H) | exact H
 have Ny946 := Aside0.mk hy946
 clear hy946
 have H' := Aside0.mk H
 clear H
 go_enter Try.func62, Try.ntmps62
 go_wp2_with (first | ((with_reducible refine gate_dst (N := 2) rfl ?_); refine box_event ?hg (N := 2) ?hd (cs := #[.slice A0_0 l0_0.length c0_0, .slice A0_1 l0_1.length c0_1]) (t := 52) ?hr ?_; (case hd => rfl); (case hg => rfl); (case hr => first | (go_simp; done) | (go_simp; rfl)); intro gb945 hg w3 hbox hb; have n0_ := Aside0.mk (below_step bz hb); have n1_ := Aside0.mk (hbox); have n2_ := Aside0.mk ((by rw [hg]; exact (below_size bz) : w.heap.size ≤ gb945)); have n3_ := Aside0.mk ((by rw [hg]; exact (below_size bz) : w.heap.size ≤ gb945)); clear HB; have HB := n0_; have BK945 := n1_; have GW945 := n2_; have GE945 := n3_; clear n0_ n1_ n2_ n3_; clear hb hbox hg) | ((with_reducible refine gate_dst (N := 15) rfl ?_); refine Kd.S_lit k86 _ 86 ?hg (N := 15) ?hd (xs := ([] : List (S86))) (inner := []) (ok := fun _ => True) (okp := fun _ => True) ?hr ?hp (fun _ hk => hk) trivial (Below.refl _ _) (Nat.le_refl _) (by simp) ?_; (case hd => rfl); (case hg => rfl); (case hr => first | (go_simp; done) | (go_simp; rfl)); (case hp => exact (Reps.none _ _)); intro v947 w4 ho5 hb hg_ hnew_; clear hg_ hnew_; (first | rw [← Ny946.out] at ho5 | (simp only [Int.reduceToNat] at ho5; rw [← Ny946.out] at ho5)); have n0_ := Aside0.mk (Kd.S_lower ho5 (below_size bz)); have n1_ := Aside0.mk (blk_below (g := gb945) (o := .cells #[.slice A0_0 l0_0.length c0_0, .slice A0_1 l0_1.length c0_1] 52 (0, 0)) kz hb); have n2_ := Aside0.mk (below_step bz hb); clear BK945; clear HB; have HO948 := n0_; have BK945 := n1_; have HB := n2_; clear n0_ n1_ n2_; clear hb ho5; have hcz6_0 : w4.cell? ⟨gb945, 0, none⟩ = some (.slice A0_0 l0_0.length c0_0) := (blk_cell BK945.out 0).trans rfl; have hcz6_1 : w4.cell? ⟨gb945, 1, none⟩ = some (.slice A0_1 l0_1.length c0_1) := (blk_cell BK945.out 1).trans rfl; have hfz6_0 := blk_frozen BK945.out 0; have hfz6_1 := blk_frozen BK945.out 1))
 go_loopg [5, 7] k (fun kq v5 v7 w' => ∃ (x5_1 : List (S86)) (x7_1 : Int), v7 = .int .i64 x7_1 ∧ Aside0 (spec_l4Loops.l0 kq l1 x5_1 (l0_0.length : Int) x7_1 l0_0 l0_1 = some r) ∧ Aside0 (kq ≤ k) ∧ Aside0 (Kd.S k86 86 w' w.heap.size (fun _ => True) v5 x5_1) ∧ Aside0 (w'.heap[gb945]? = some (.cells #[(.slice A0_0 l0_0.length c0_0), (.slice A0_1 l0_1.length c0_1)] 52 (0, 0))) ∧ Aside0 (Below w.heap.size w w'))
 case atStart => exact ⟨(y946), (0), sz_, H', ⟨Nat.le_refl _⟩, ⟨by (with_reducible repeat (first | apply Kd.S_alloc | apply Kd.S_drewN | apply Kd.S_drew)); exact HO948.out⟩, ⟨ kz⟩, ⟨ bz⟩⟩
 case round =>
  clear H'
  try clear c1
  try clear p2
  try clear c6
  try clear hcz6_0
  try clear hcz6_1
  try clear hfz6_0
  try clear hfz6_1
  obtain ⟨x5_1, x7_1, rfl, HA, HK1, HO_5, BK945, HB⟩ := hrel
  cases gk with
  | zero => exact absurd HA.out (by simp [spec_l4Loops.l0])
  | succ k1 =>
   have H := HA.out
   clear HA
   simp only [spec_l4Loops.l0] at H
   by_cases c7 : x7_1 < (l0_0.length : Int)
   · rw [if_pos c7] at H
     have c7b0 : decide (x7_1 < (l0_0.length : Int)) = true := decide_eq_true c7
     clear c7
     obtain ⟨y949, hy949⟩ : ∃ y_ : List Int, y_ = (([] : List Int)) := ⟨_, rfl⟩
     replace H : (spec_l4Loops.l1 k1 l1 x5_1 (l0_0.length : Int) x7_1 y949 0 l0_0 l0_1) = some r := by first | (rw [hy949]; with_reducible exact H) | (have H2_ := (Option.bind_some _ _).symm.trans H; rw [hy949]; with_reducible exact H2_) | (have H2_ := (Option.bind_some _ _).symm.trans H; with_reducible exact H2_) | with_reducible exact H | (rw [hy949]; exact H) | exact H
     have Ny949 := Aside0.mk hy949
     clear hy949
     have H' := Aside0.mk H
     clear H
     go_wp2_with (first | ((with_reducible refine gate_dst (N := 24) rfl ?_); refine Kd.R_lit (Kd.int .i64) _ 2 ?hg (N := 24) ?hd (xs := ([] : List Int)) (inner := []) (ok := fun _ => True) (okp := fun _ => True) ?hr ?hp (fun _ hk => hk) trivial (Below.refl _ _) (Nat.le_refl _) (by simp) ?_; (case hd => rfl); (case hg => rfl); (case hr => first | (go_simp; done) | (go_simp; rfl)); (case hp => exact (Reps.none _ _)); intro v950 w8 ho9 hb hg_ hnew_; clear hg_ hnew_; (first | rw [← Ny949.out] at ho9 | (simp only [Int.reduceToNat] at ho9; rw [← Ny949.out] at ho9)); have n0_ := Aside0.mk (Kd.S_elder' (rs HO_5.out) (Kd.R_base ho9) hb); have n1_ := Aside0.mk (Kd.R_lower ho9 (below_size bz)); have n2_ := Aside0.mk (blk_below (g := gb945) (o := .cells #[.slice A0_0 l0_0.length c0_0, .slice A0_1 l0_1.length c0_1] 52 (0, 0)) kz hb); have n3_ := Aside0.mk (below_step bz hb); clear HO_5; clear BK945; clear HB; have HO_5 := n0_; have HO951 := n1_; have BK945 := n2_; have HB := n3_; clear n0_ n1_ n2_ n3_; clear hb ho9))
     go_loopg [8, 9] k1 (fun kq v8 v9 w' => ∃ (x8_2 : List Int) (x9_2 : Int), v9 = .int .i64 x9_2 ∧ Aside0 (spec_l4Loops.l1 kq l1 x5_1 (l0_0.length : Int) x7_1 x8_2 x9_2 l0_0 l0_1 = some r) ∧ Aside0 (kq ≤ k1) ∧ Aside0 (Kd.S k86 86 w' w.heap.size (fun k_ => some k_ ≠ (v8 : Value).ownBlock) u5 x5_1) ∧ Aside0 (Kd.R (Kd.int .i64) 2 w' w.heap.size (fun _ => True) v8 x8_2) ∧ Aside0 (w'.heap[gb945]? = some (.cells #[(.slice A0_0 l0_0.length c0_0), (.slice A0_1 l0_1.length c0_1)] 52 (0, 0))) ∧ Aside0 (Below w.heap.size w w'))
     case atStart => exact ⟨(y949), (0), sz_, H', ⟨Nat.le_refl _⟩, ⟨by (with_reducible repeat (first | apply Kd.S_alloc | apply Kd.S_drewN | apply Kd.S_drew)); exact Kd.S_mono HO_5.out (fun _ hk => hk.2)⟩, ⟨by (with_reducible repeat (first | apply Kd.R_alloc | apply Kd.R_drewN | apply Kd.R_drew)); exact HO951.out⟩, ⟨ kz⟩, ⟨ bz⟩⟩
     case round =>
      clear H'
      try clear c1
      try clear p2
      try clear c6
      try clear c7
      try clear c7b0
      try clear hcz6_0
      try clear hcz6_1
      try clear hfz6_0
      try clear hfz6_1
      try clear p2
      obtain ⟨x8_2, x9_2, rfl, HA, HK2, HO_5, HO_8, BK945, HB⟩ := hrel
      cases gk with
      | zero => exact absurd HA.out (by simp [spec_l4Loops.l1])
      | succ k2 =>
       have H := HA.out
       clear HA
       simp only [spec_l4Loops.l1] at H
       by_cases c10 : 0 ≤ x7_1
       · rw [if_pos c10] at H
         have c10b0 : decide (0 ≤ x7_1) = true := decide_eq_true c10
         clear c10
         by_cases c11 : x7_1 < (l0_1.length : Int)
         · rw [if_pos c11] at H
           have c11b0 : decide (x7_1 < (l0_1.length : Int)) = true := decide_eq_true c11
           clear c11
           by_cases c12 : x9_2 < ((rd_L4 l0_1 x7_1).length : Int)
           · rw [if_pos c12] at H
             have c12b0 : decide (x9_2 < ((rd_L4 l0_1 x7_1).length : Int)) = true := decide_eq_true c12
             clear c12
             by_cases c13 : x7_1 < (l1.length : Int)
             · rw [if_pos c13] at H
               have c13b0 : decide (x7_1 < (l1.length : Int)) = true := decide_eq_true c13
               clear c13
               by_cases c14 : 0 ≤ x9_2
               · rw [if_pos c14] at H
                 have c14b0 : decide (0 ≤ x9_2) = true := decide_eq_true c14
                 clear c14
                 by_cases c15 : 0 ≤ (rd (rd_L4 l0_1 x7_1) x9_2)
                 · rw [if_pos c15] at H
                   have c15b0 : decide (0 ≤ (rd (rd_L4 l0_1 x7_1) x9_2)) = true := decide_eq_true c15
                   clear c15
                   by_cases c16 : (rd (rd_L4 l0_1 x7_1) x9_2) < ((rd_L19 l1 x7_1).length : Int)
                   · rw [if_pos c16] at H
                     have c16b0 : decide ((rd (rd_L4 l0_1 x7_1) x9_2) < ((rd_L19 l1 x7_1).length : Int)) = true := decide_eq_true c16
                     clear c16
                     obtain ⟨bq17, hbq17⟩ : ∃ b_ : Bool, b_ = (rdOf false (rd_L19 l1 x7_1) (rd (rd_L4 l0_1 x7_1) x9_2)) := ⟨_, rfl⟩
                     replace H : (if bq17 = true then (if x8_2.length < 17592186044416 then (spec_l4Loops.l1 k2 l1 x5_1 (l0_0.length : Int) x7_1 (x8_2 ++ [rd (rd_L4 l0_1 x7_1) x9_2]) (wrap64 (x9_2 + 1)) l0_0 l0_1) else (none)) else (spec_l4Loops.l1 k2 l1 x5_1 (l0_0.length : Int) x7_1 x8_2 (wrap64 (x9_2 + 1)) l0_0 l0_1)) = some r := by rw [← hbq17] at H; exact H
                     have Nbq17 := Aside0.mk hbq17
                     clear hbq17
                     by_cases c18 : bq17 = true
                     · subst c18
                       have H1 : (if x8_2.length < 17592186044416 then (spec_l4Loops.l1 k2 l1 x5_1 (l0_0.length : Int) x7_1 (x8_2 ++ [rd (rd_L4 l0_1 x7_1) x9_2]) (wrap64 (x9_2 + 1)) l0_0 l0_1) else (none)) = some r := by rw [if_pos rfl] at H; exact H
                       clear H
                       have H := H1
                       clear H1
                       by_cases c19 : x8_2.length < 17592186044416
                       · rw [if_pos c19] at H
                         have LMc19 := Aside0.mk c19
                         clear c19
                         obtain ⟨y959, hy959⟩ : ∃ y_ : List Int, y_ = (x8_2 ++ [rd (rd_L4 l0_1 x7_1) x9_2]) := ⟨_, rfl⟩
                         replace H : (spec_l4Loops.l1 k2 l1 x5_1 (l0_0.length : Int) x7_1 y959 (wrap64 (x9_2 + 1)) l0_0 l0_1) = some r := by first | (rw [hy959]; with_reducible exact H) | (have H2_ := (Option.bind_some _ _).symm.trans H; rw [hy959]; with_reducible exact H2_) | (have H2_ := (Option.bind_some _ _).symm.trans H; with_reducible exact H2_) | with_reducible exact H | (rw [hy959]; exact H) | exact H
                         have Ny959 := Aside0.mk hy959
                         clear hy959
                         have H' := Aside0.mk H
                         clear H
                         have hcz20_0 : wr.cell? ⟨gb945, 0, none⟩ = some (.slice A0_0 l0_0.length c0_0) := (blk_cell BK945.out 0).trans rfl
                         have hcz20_1 : wr.cell? ⟨gb945, 1, none⟩ = some (.slice A0_1 l0_1.length c0_1) := (blk_cell BK945.out 1).trans rfl
                         have hfz20_0 := blk_frozen BK945.out 0
                         have hfz20_1 := blk_frozen BK945.out 1
                         have p952 : 0 ≤ (x7_1 : Int) := of_decide_eq_true az
                         have q952 : x7_1 < (l0_1.length : Int) := of_decide_eq_true az
                         obtain ⟨ad952, A952_0, c952_0, e952, hx952_0, hl952_0, hi952_0⟩ := at_L4 HR0_1.out x7_1 p952 q952
                         cases e952
                         replace hx952_0 := ck HB hx952_0
                         have HR952_0 := Aside0.mk hi952_0
                         have HC952_0 := Aside0.mk hl952_0
                         clear hi952_0 hl952_0
                         replace p952 := eq_true p952
                         replace q952 := eq_true q952
                         try go_wp2
                         have n0_ := Aside0.mk (Kd.S_drew HO_5.out)
                         have n1_ := Aside0.mk (Kd.R_drew HO_8.out)
                         have n2_ := Aside0.mk (blk_drew BK945.out)
                         have n3_ := Aside0.mk (below_drew1 HB.out)
                         clear HO_5
                         clear HO_8
                         clear BK945
                         clear HB
                         have HO_5 := n0_
                         have HO_8 := n1_
                         have BK945 := n2_
                         have HB := n3_
                         clear n0_ n1_ n2_ n3_
                         have p953 : 0 ≤ (x7_1 : Int) := of_decide_eq_true az
                         have q953 : x7_1 < (l1.length : Int) := of_decide_eq_true az
                         obtain ⟨ad953, A953_0, c953_0, e953, hx953_0, hl953_0, hi953_0⟩ := at_L19 HR1.out x7_1 p953 q953
                         have hw953_0 := hx953_0
                         (try rw [← Nbq17.out] at hw953_0)
                         cases e953
                         replace hx953_0 := ck HB hx953_0
                         have HR953_0 := Aside0.mk hi953_0
                         have HC953_0 := Aside0.mk hl953_0
                         clear hi953_0 hl953_0
                         replace p953 := eq_true p953
                         replace q953 := eq_true q953
                         have p954 : 0 ≤ (x7_1 : Int) := of_decide_eq_true az
                         have q954 : x7_1 < (l0_1.length : Int) := of_decide_eq_true az
                         obtain ⟨ad954, A954_0, c954_0, e954, hx954_0, hl954_0, hi954_0⟩ := at_L4 HR0_1.out x7_1 p954 q954
                         have hw954_0 := hx954_0
                         (try rw [← Nbq17.out] at hw954_0)
                         obtain rfl : ad952 = ad954 := (by injection e954)
                         replace hx954_0 := ck HB hx954_0
                         have HR954_0 := Aside0.mk hi954_0
                         have HC954_0 := Aside0.mk hl954_0
                         clear hi954_0 hl954_0
                         replace p954 := eq_true p954
                         replace q954 := eq_true q954
                         have p955 : 0 ≤ (x9_2 : Int) := of_decide_eq_true az
                         have q955 : x9_2 < ((rd_L4 l0_1 x7_1).length : Int) := of_decide_eq_true az
                         obtain ⟨ad955, e955, hx955_0⟩ := Kd.at_int HR954_0.out x9_2 p955 q955
                         have hw955_0 := hx955_0
                         (try rw [← Nbq17.out] at hw955_0)
                         cases e955
                         replace hx955_0 := ck HB hx955_0
                         replace p955 := eq_true p955
                         replace q955 := eq_true q955
                         have p956 : 0 ≤ ((rd (rd_L4 l0_1 x7_1) x9_2) : Int) := of_decide_eq_true az
                         have q956 : (rd (rd_L4 l0_1 x7_1) x9_2) < ((rd_L19 l1 x7_1).length : Int) := of_decide_eq_true az
                         obtain ⟨ad956, e956, hx956_0⟩ := Kd.at_bool HR953_0.out (rd (rd_L4 l0_1 x7_1) x9_2) p956 q956
                         have hw956_0 := hx956_0
                         (try rw [← Nbq17.out] at hw956_0)
                         (try rw [← Nbq17.out] at hx956_0)
                         cases e956
                         replace hx956_0 := ck HB hx956_0
                         replace p956 := eq_true p956
                         replace q956 := eq_true q956
                         refine start_ (n := 14) (S := fun w' => w'.cell? ⟨gb945, 0, none⟩ = some (.slice A0_0 l0_0.length c0_0) ∧ w'.cell? ⟨gb945, 1, none⟩ = some (.slice (some ad952) l0_1.length c0_1) ∧ w'.cell? (ad953.add (x7_1).toNat) = some (.slice (some ad956) (rd_L19 l1 x7_1).length c953_0) ∧ w'.cell? (ad952.add (x7_1).toNat) = some (.slice (some ad955) (rd_L4 l0_1 x7_1).length c954_0) ∧ w'.cell? (ad955.add (x9_2).toNat) = some (.int .i64 (rd (rd_L4 l0_1 x7_1) x9_2)) ∧ w'.cell? (ad956.add ((rd (rd_L4 l0_1 x7_1) x9_2)).toNat) = some (.bool true)) (ds := []) #[false, false, false, false, false, false, false, false, false, false, false, false, false, false] (by kernel_rfl) rfl rfl ⟨(blk_cell BK945.out 0).trans rfl, (blk_cell BK945.out 1).trans rfl, (ck HB hw953_0), (ck HB hw954_0), (ck HB hw955_0), (ck HB hw956_0)⟩ (fun hHeld => ?_); refine with_tabW spec_l4Loops.tab10 spec_l4Loops.bits10 (fun HT_ HW_ => ?_)
                         generalize wr.drew = w21 at HO_5 HO_8 BK945 HB HR953_0 HR954_0 hx953_0 hx954_0 hx955_0 hx956_0 hHeld ⊢
                         refine pure_ (i := 0) (N := some 35) (v := ?_) (a' := ?_) #[true, false, false, false, false, false, false, false, false, false, false, false, false, false] rfl rfl (any_of HT_.out (by kernel_rfl)) (fun _ _ _ h => h) (Or.inl ⟨by rfl, ?_⟩) ?_ ?_
                         rotate_left
                         · intro w'
                           go_simp
                           with_reducible rfl
                         rotate_left
                         · simp only [Act.put, sx1, sx2, sx3, i64_w, i32_w]
                           rfl
                         refine pure_ (i := 1) (N := some 36) (v := ?_) (a' := ?_) #[true, true, false, false, false, false, false, false, false, false, false, false, false, false] rfl rfl (any_of HT_.out (by kernel_rfl)) (fun _ _ _ h => h) (Or.inl ⟨by rfl, ?_⟩) ?_ ?_
                         rotate_left
                         · intro w'
                           go_simp
                           with_reducible rfl
                         rotate_left
                         · simp only [Act.put, sx1, sx2, sx3, i64_w, i32_w]
                           rfl
                         refine pure_ (i := 2) (N := some 37) (v := ?_) (a' := ?_) #[true, true, true, false, false, false, false, false, false, false, false, false, false, false] rfl rfl (any_of HT_.out (by kernel_rfl)) (fun _ _ _ h => h) (Or.inl ⟨by rfl, ?_⟩) ?_ ?_
                         rotate_left
                         · intro w'
                           go_simp
                           with_reducible rfl
                         rotate_left
                         · simp only [Act.put, sx1, sx2, sx3, i64_w, i32_w]
                           rfl
                         refine pure_ (i := 4) (N := some 39) (v := ?_) (a' := ?_) #[true, true, true, false, true, false, false, false, false, false, false, false, false, false] rfl rfl (any_of HT_.out (by kernel_rfl)) (fun _ _ _ h => h) (Or.inl ⟨by rfl, ?_⟩) ?_ ?_
                         rotate_left
                         · intro w'
                           go_simp
                           with_reducible rfl
                         rotate_left
                         · simp only [Act.put, sx1, sx2, sx3, i64_w, i32_w]
                           rfl
                         refine pure_ (i := 6) (N := some 41) (v := ?_) (a' := ?_) #[true, true, true, false, true, false, true, false, false, false, false, false, false, false] rfl rfl (any_of HT_.out (by kernel_rfl)) (fun _ _ _ h => h) (Or.inl ⟨by rfl, ?_⟩) ?_ ?_
                         rotate_left
                         · intro w'
                           go_simp
                           with_reducible rfl
                         rotate_left
                         · simp only [Act.put, sx1, sx2, sx3, i64_w, i32_w]
                           rfl
                         refine pure_ (i := 9) (N := some 44) (v := ?_) (a' := ?_) #[true, true, true, false, true, false, true, false, false, true, false, false, false, false] rfl rfl (any_of HT_.out (by kernel_rfl)) (fun _ _ _ h => h) (Or.inl ⟨by rfl, ?_⟩) ?_ ?_
                         rotate_left
                         · intro w'
                           go_simp
                           with_reducible rfl
                         rotate_left
                         · simp only [Act.put, sx1, sx2, sx3, i64_w, i32_w]
                           rfl
                         refine take_ (i := 3) (N := some 38) (v := ?_) (a' := ?_) #[true, true, true, true, true, false, true, false, false, true, false, false, false, false] rfl rfl (take_ofW HT_.out HW_.out (by kernel_rfl)) (fun _ _ _ h => h) (Or.inl ⟨by rfl, ?_⟩) hHeld ?_ ?_
                         rotate_left
                         · rintro w' ⟨s0, s1, s2, s3, s4, s5⟩
                           go_simp
                           with_reducible rfl
                         rotate_left
                         · simp only [Act.put, sx1, sx2, sx3, i64_w, i32_w]
                           rfl
                         refine take_ (i := 5) (N := some 40) (v := ?_) (a' := ?_) #[true, true, true, true, true, true, true, false, false, true, false, false, false, false] rfl rfl (take_ofW HT_.out HW_.out (by kernel_rfl)) (fun _ _ _ h => h) (Or.inl ⟨by rfl, ?_⟩) hHeld ?_ ?_
                         rotate_left
                         · rintro w' ⟨s0, s1, s2, s3, s4, s5⟩
                           go_simp
                           with_reducible rfl
                         rotate_left
                         · simp only [Act.put, sx1, sx2, sx3, i64_w, i32_w]
                           rfl
                         refine pure_ (i := 7) (N := some 42) (v := ?_) (a' := ?_) #[true, true, true, true, true, true, true, true, false, true, false, false, false, false] rfl rfl (any_of HT_.out (by kernel_rfl)) (fun _ _ _ h => h) (Or.inl ⟨by rfl, ?_⟩) ?_ ?_
                         rotate_left
                         · intro w'
                           go_simp
                           with_reducible rfl
                         rotate_left
                         · simp only [Act.put, sx1, sx2, sx3, i64_w, i32_w]
                           rfl
                         refine take_ (i := 8) (N := some 43) (v := ?_) (a' := ?_) #[true, true, true, true, true, true, true, true, true, true, false, false, false, false] rfl rfl (take_ofW HT_.out HW_.out (by kernel_rfl)) (fun _ _ _ h => h) (Or.inl ⟨by rfl, ?_⟩) hHeld ?_ ?_
                         rotate_left
                         · rintro w' ⟨s0, s1, s2, s3, s4, s5⟩
                           go_simp
                           with_reducible rfl
                         rotate_left
                         · simp only [Act.put, sx1, sx2, sx3, i64_w, i32_w]
                           rfl
                         refine pure_ (i := 10) (N := some 45) (v := ?_) (a' := ?_) #[true, true, true, true, true, true, true, true, true, true, true, false, false, false] rfl rfl (any_of HT_.out (by kernel_rfl)) (fun _ _ _ h => h) (Or.inl ⟨by rfl, ?_⟩) ?_ ?_
                         rotate_left
                         · intro w'
                           go_simp
                           with_reducible rfl
                         rotate_left
                         · simp only [Act.put, sx1, sx2, sx3, i64_w, i32_w]
                           rfl
                         refine take_ (i := 11) (N := some 46) (v := ?_) (a' := ?_) #[true, true, true, true, true, true, true, true, true, true, true, true, false, false] rfl rfl (take_ofW HT_.out HW_.out (by kernel_rfl)) (fun _ _ _ h => h) (Or.inl ⟨by rfl, ?_⟩) hHeld ?_ ?_
                         rotate_left
                         · rintro w' ⟨s0, s1, s2, s3, s4, s5⟩
                           go_simp
                           with_reducible rfl
                         rotate_left
                         · simp only [Act.put, sx1, sx2, sx3, i64_w, i32_w]
                           rfl
                         refine pure_ (i := 12) (N := some 47) (v := ?_) (a' := ?_) #[true, true, true, true, true, true, true, true, true, true, true, true, true, false] rfl rfl (any_of HT_.out (by kernel_rfl)) (fun _ _ _ h => h) (Or.inl ⟨by rfl, ?_⟩) ?_ ?_
                         rotate_left
                         · intro w'
                           go_simp
                           with_reducible rfl
                         rotate_left
                         · simp only [Act.put, sx1, sx2, sx3, i64_w, i32_w]
                           rfl
                         refine take_ (i := 13) (N := some 48) (v := ?_) (a' := ?_) #[true, true, true, true, true, true, true, true, true, true, true, true, true, true] rfl rfl (take_ofW HT_.out HW_.out (by kernel_rfl)) (fun _ _ _ h => h) (Or.inl ⟨by rfl, ?_⟩) hHeld ?_ ?_
                         rotate_left
                         · rintro w' ⟨s0, s1, s2, s3, s4, s5⟩
                           go_simp
                           with_reducible rfl
                         rotate_left
                         · simp only [Act.put, sx1, sx2, sx3, i64_w, i32_w]
                           rfl
                         refine done_ (done_of HT_.out (by kernel_rfl)) ?_
                         have hcz22_0 : w21.cell? ⟨gb945, 0, none⟩ = some (.slice A0_0 l0_0.length c0_0) := (blk_cell BK945.out 0).trans rfl
                         have hcz22_1 : w21.cell? ⟨gb945, 1, none⟩ = some (.slice (some ad952) l0_1.length c0_1) := (blk_cell BK945.out 1).trans rfl
                         have hfz22_0 := blk_frozen BK945.out 0
                         have hfz22_1 := blk_frozen BK945.out 1
                         have p957 : 0 ≤ (x7_1 : Int) := of_decide_eq_true az
                         have q957 : x7_1 < (l0_1.length : Int) := of_decide_eq_true az
                         obtain ⟨ad957, A957_0, c957_0, e957, hx957_0, hl957_0, hi957_0⟩ := at_L4 HR0_1.out x7_1 p957 q957
                         obtain rfl : ad952 = ad957 := (by injection e957)
                         replace hx957_0 := ck HB hx957_0
                         have HR957_0 := Aside0.mk hi957_0
                         have HC957_0 := Aside0.mk hl957_0
                         clear hi957_0 hl957_0
                         replace p957 := eq_true p957
                         replace q957 := eq_true q957
                         have ea_ := Option.some.inj (hx954_0.symm.trans hx957_0)
                         injection ea_ with ea_ en_ ec_
                         subst ea_
                         subst ec_
                         clear en_
                         have p958 : 0 ≤ (x9_2 : Int) := of_decide_eq_true az
                         have q958 : x9_2 < ((rd_L4 l0_1 x7_1).length : Int) := of_decide_eq_true az
                         obtain ⟨ad958, e958, hx958_0⟩ := Kd.at_int HR957_0.out x9_2 p958 q958
                         cases e958
                         replace hx958_0 := ck HB hx958_0
                         replace p958 := eq_true p958
                         replace q958 := eq_true q958
                         try go_wp2_with (first | ((with_reducible refine gate_builtin (b := .append) (xs := #[.tmp 49, .tmp 58]) rfl ?_); at_builtin; refine Kd.R_append (Kd.int .i64) (w0 := w) w.heap.size rfl (.tmp 49) (.tmp 58) 22 2 (.int .i64 0) 8 rfl Try.underlying22 info2 rfl (by decide) (by omega) u8 x8_2 (rd (rd_L4 l0_1 x7_1) x9_2) [.int .i64 (rd (rd_L4 l0_1 x7_1) x9_2)] (fun _ => True) (fun _ => False) rfl rfl ?aP (fun _ hk => hk.elim) ?aF ?aO ?aB ?aS ?aL ?_; (case aP => exact rfl); (case aB => exact bz); (case aF => exact (fun _ _ => trivial)); (case aO => exact (rz HO_8.out)); (case aS => exact (below_size bz)); (case aL => have := LMc19.out; omega); intro v960 w23 ho hb hg hat; rw [← Ny959.out] at ho; have n0_ := Aside0.mk (Kd.S_after (ok := (fun _ => True)) (by (with_reducible repeat (first | apply Kd.S_alloc | apply Kd.S_drewN | apply Kd.S_drew)); exact Kd.S_mono HO_5.out (fun _ hk => ⟨trivial, hk⟩)) hg hat); have n1_ := Aside0.mk (blk_grown (g := gb945) (o := .cells #[.slice A0_0 l0_0.length c0_0, .slice (some ad952) l0_1.length c0_1] 52 (0, 0)) kz hg (Kd.R_ne HO_8.out BK945.out (by decide))); have n2_ := Aside0.mk (hb); have n3_ := Aside0.mk (ho); clear HO_5; clear BK945; clear HB; clear HO_8; have HO_5 := n0_; have BK945 := n1_; have HB := n2_; have HO961 := n3_; clear n0_ n1_ n2_ n3_; clear ho hb hg hat))
                         go_roundg k2
                         case measure => have := HK1.out; have := HK2.out; omega
                         case rel => exact ⟨(y959), (wrap64 (x9_2 + 1)), sz_, H', ⟨by have := HK1.out; have := HK2.out; omega⟩, ⟨by (with_reducible repeat (first | apply Kd.S_alloc | apply Kd.S_drewN | apply Kd.S_drew)); exact Kd.S_mono HO_5.out (fun _ hk => hk.2)⟩, ⟨by (with_reducible repeat (first | apply Kd.R_alloc | apply Kd.R_drewN | apply Kd.R_drew)); exact HO961.out⟩, ⟨ kz⟩, ⟨ bz⟩⟩
                       · rw [if_neg c19] at H
                         exact absurd H (by simp)
                     · replace c18 := Bool.eq_false_iff.mpr c18
                       subst c18
                       have H1 : (spec_l4Loops.l1 k2 l1 x5_1 (l0_0.length : Int) x7_1 x8_2 (wrap64 (x9_2 + 1)) l0_0 l0_1) = some r := by rw [if_neg (show ¬ (false = true) by decide)] at H; exact H
                       clear H
                       have H := H1
                       clear H1
                       have H' := Aside0.mk H
                       clear H
                       have hcz24_0 : wr.cell? ⟨gb945, 0, none⟩ = some (.slice A0_0 l0_0.length c0_0) := (blk_cell BK945.out 0).trans rfl
                       have hcz24_1 : wr.cell? ⟨gb945, 1, none⟩ = some (.slice A0_1 l0_1.length c0_1) := (blk_cell BK945.out 1).trans rfl
                       have hfz24_0 := blk_frozen BK945.out 0
                       have hfz24_1 := blk_frozen BK945.out 1
                       have p952 : 0 ≤ (x7_1 : Int) := of_decide_eq_true az
                       have q952 : x7_1 < (l0_1.length : Int) := of_decide_eq_true az
                       obtain ⟨ad952, A952_0, c952_0, e952, hx952_0, hl952_0, hi952_0⟩ := at_L4 HR0_1.out x7_1 p952 q952
                       cases e952
                       replace hx952_0 := ck HB hx952_0
                       have HR952_0 := Aside0.mk hi952_0
                       have HC952_0 := Aside0.mk hl952_0
                       clear hi952_0 hl952_0
                       replace p952 := eq_true p952
                       replace q952 := eq_true q952
                       try go_wp2
                       have n0_ := Aside0.mk (Kd.S_drew HO_5.out)
                       have n1_ := Aside0.mk (Kd.R_drew HO_8.out)
                       have n2_ := Aside0.mk (blk_drew BK945.out)
                       have n3_ := Aside0.mk (below_drew1 HB.out)
                       clear HO_5
                       clear HO_8
                       clear BK945
                       clear HB
                       have HO_5 := n0_
                       have HO_8 := n1_
                       have BK945 := n2_
                       have HB := n3_
                       clear n0_ n1_ n2_ n3_
                       have p953 : 0 ≤ (x7_1 : Int) := of_decide_eq_true az
                       have q953 : x7_1 < (l1.length : Int) := of_decide_eq_true az
                       obtain ⟨ad953, A953_0, c953_0, e953, hx953_0, hl953_0, hi953_0⟩ := at_L19 HR1.out x7_1 p953 q953
                       have hw953_0 := hx953_0
                       (try rw [← Nbq17.out] at hw953_0)
                       cases e953
                       replace hx953_0 := ck HB hx953_0
                       have HR953_0 := Aside0.mk hi953_0
                       have HC953_0 := Aside0.mk hl953_0
                       clear hi953_0 hl953_0
                       replace p953 := eq_true p953
                       replace q953 := eq_true q953
                       have p954 : 0 ≤ (x7_1 : Int) := of_decide_eq_true az
                       have q954 : x7_1 < (l0_1.length : Int) := of_decide_eq_true az
                       obtain ⟨ad954, A954_0, c954_0, e954, hx954_0, hl954_0, hi954_0⟩ := at_L4 HR0_1.out x7_1 p954 q954
                       have hw954_0 := hx954_0
                       (try rw [← Nbq17.out] at hw954_0)
                       obtain rfl : ad952 = ad954 := (by injection e954)
                       replace hx954_0 := ck HB hx954_0
                       have HR954_0 := Aside0.mk hi954_0
                       have HC954_0 := Aside0.mk hl954_0
                       clear hi954_0 hl954_0
                       replace p954 := eq_true p954
                       replace q954 := eq_true q954
                       have p955 : 0 ≤ (x9_2 : Int) := of_decide_eq_true az
                       have q955 : x9_2 < ((rd_L4 l0_1 x7_1).length : Int) := of_decide_eq_true az
                       obtain ⟨ad955, e955, hx955_0⟩ := Kd.at_int HR954_0.out x9_2 p955 q955
                       have hw955_0 := hx955_0
                       (try rw [← Nbq17.out] at hw955_0)
                       cases e955
                       replace hx955_0 := ck HB hx955_0
                       replace p955 := eq_true p955
                       replace q955 := eq_true q955
                       have p956 : 0 ≤ ((rd (rd_L4 l0_1 x7_1) x9_2) : Int) := of_decide_eq_true az
                       have q956 : (rd (rd_L4 l0_1 x7_1) x9_2) < ((rd_L19 l1 x7_1).length : Int) := of_decide_eq_true az
                       obtain ⟨ad956, e956, hx956_0⟩ := Kd.at_bool HR953_0.out (rd (rd_L4 l0_1 x7_1) x9_2) p956 q956
                       have hw956_0 := hx956_0
                       (try rw [← Nbq17.out] at hw956_0)
                       (try rw [← Nbq17.out] at hx956_0)
                       cases e956
                       replace hx956_0 := ck HB hx956_0
                       replace p956 := eq_true p956
                       replace q956 := eq_true q956
                       refine start_ (n := 14) (S := fun w' => w'.cell? ⟨gb945, 0, none⟩ = some (.slice A0_0 l0_0.length c0_0) ∧ w'.cell? ⟨gb945, 1, none⟩ = some (.slice (some ad952) l0_1.length c0_1) ∧ w'.cell? (ad953.add (x7_1).toNat) = some (.slice (some ad956) (rd_L19 l1 x7_1).length c953_0) ∧ w'.cell? (ad952.add (x7_1).toNat) = some (.slice (some ad955) (rd_L4 l0_1 x7_1).length c954_0) ∧ w'.cell? (ad955.add (x9_2).toNat) = some (.int .i64 (rd (rd_L4 l0_1 x7_1) x9_2)) ∧ w'.cell? (ad956.add ((rd (rd_L4 l0_1 x7_1) x9_2)).toNat) = some (.bool false)) (ds := []) #[false, false, false, false, false, false, false, false, false, false, false, false, false, false] (by kernel_rfl) rfl rfl ⟨(blk_cell BK945.out 0).trans rfl, (blk_cell BK945.out 1).trans rfl, (ck HB hw953_0), (ck HB hw954_0), (ck HB hw955_0), (ck HB hw956_0)⟩ (fun hHeld => ?_); refine with_tabW spec_l4Loops.tab10 spec_l4Loops.bits10 (fun HT_ HW_ => ?_)
                       generalize wr.drew = w25 at HO_5 HO_8 BK945 HB HR953_0 HR954_0 hx953_0 hx954_0 hx955_0 hx956_0 hHeld ⊢
                       refine pure_ (i := 0) (N := some 35) (v := ?_) (a' := ?_) #[true, false, false, false, false, false, false, false, false, false, false, false, false, false] rfl rfl (any_of HT_.out (by kernel_rfl)) (fun _ _ _ h => h) (Or.inl ⟨by rfl, ?_⟩) ?_ ?_
                       rotate_left
                       · intro w'
                         go_simp
                         with_reducible rfl
                       rotate_left
                       · simp only [Act.put, sx1, sx2, sx3, i64_w, i32_w]
                         rfl
                       refine pure_ (i := 1) (N := some 36) (v := ?_) (a' := ?_) #[true, true, false, false, false, false, false, false, false, false, false, false, false, false] rfl rfl (any_of HT_.out (by kernel_rfl)) (fun _ _ _ h => h) (Or.inl ⟨by rfl, ?_⟩) ?_ ?_
                       rotate_left
                       · intro w'
                         go_simp
                         with_reducible rfl
                       rotate_left
                       · simp only [Act.put, sx1, sx2, sx3, i64_w, i32_w]
                         rfl
                       refine pure_ (i := 2) (N := some 37) (v := ?_) (a' := ?_) #[true, true, true, false, false, false, false, false, false, false, false, false, false, false] rfl rfl (any_of HT_.out (by kernel_rfl)) (fun _ _ _ h => h) (Or.inl ⟨by rfl, ?_⟩) ?_ ?_
                       rotate_left
                       · intro w'
                         go_simp
                         with_reducible rfl
                       rotate_left
                       · simp only [Act.put, sx1, sx2, sx3, i64_w, i32_w]
                         rfl
                       refine pure_ (i := 4) (N := some 39) (v := ?_) (a' := ?_) #[true, true, true, false, true, false, false, false, false, false, false, false, false, false] rfl rfl (any_of HT_.out (by kernel_rfl)) (fun _ _ _ h => h) (Or.inl ⟨by rfl, ?_⟩) ?_ ?_
                       rotate_left
                       · intro w'
                         go_simp
                         with_reducible rfl
                       rotate_left
                       · simp only [Act.put, sx1, sx2, sx3, i64_w, i32_w]
                         rfl
                       refine pure_ (i := 6) (N := some 41) (v := ?_) (a' := ?_) #[true, true, true, false, true, false, true, false, false, false, false, false, false, false] rfl rfl (any_of HT_.out (by kernel_rfl)) (fun _ _ _ h => h) (Or.inl ⟨by rfl, ?_⟩) ?_ ?_
                       rotate_left
                       · intro w'
                         go_simp
                         with_reducible rfl
                       rotate_left
                       · simp only [Act.put, sx1, sx2, sx3, i64_w, i32_w]
                         rfl
                       refine pure_ (i := 9) (N := some 44) (v := ?_) (a' := ?_) #[true, true, true, false, true, false, true, false, false, true, false, false, false, false] rfl rfl (any_of HT_.out (by kernel_rfl)) (fun _ _ _ h => h) (Or.inl ⟨by rfl, ?_⟩) ?_ ?_
                       rotate_left
                       · intro w'
                         go_simp
                         with_reducible rfl
                       rotate_left
                       · simp only [Act.put, sx1, sx2, sx3, i64_w, i32_w]
                         rfl
                       refine take_ (i := 3) (N := some 38) (v := ?_) (a' := ?_) #[true, true, true, true, true, false, true, false, false, true, false, false, false, false] rfl rfl (take_ofW HT_.out HW_.out (by kernel_rfl)) (fun _ _ _ h => h) (Or.inl ⟨by rfl, ?_⟩) hHeld ?_ ?_
                       rotate_left
                       · rintro w' ⟨s0, s1, s2, s3, s4, s5⟩
                         go_simp
                         with_reducible rfl
                       rotate_left
                       · simp only [Act.put, sx1, sx2, sx3, i64_w, i32_w]
                         rfl
                       refine take_ (i := 5) (N := some 40) (v := ?_) (a' := ?_) #[true, true, true, true, true, true, true, false, false, true, false, false, false, false] rfl rfl (take_ofW HT_.out HW_.out (by kernel_rfl)) (fun _ _ _ h => h) (Or.inl ⟨by rfl, ?_⟩) hHeld ?_ ?_
                       rotate_left
                       · rintro w' ⟨s0, s1, s2, s3, s4, s5⟩
                         go_simp
                         with_reducible rfl
                       rotate_left
                       · simp only [Act.put, sx1, sx2, sx3, i64_w, i32_w]
                         rfl
                       refine pure_ (i := 7) (N := some 42) (v := ?_) (a' := ?_) #[true, true, true, true, true, true, true, true, false, true, false, false, false, false] rfl rfl (any_of HT_.out (by kernel_rfl)) (fun _ _ _ h => h) (Or.inl ⟨by rfl, ?_⟩) ?_ ?_
                       rotate_left
                       · intro w'
                         go_simp
                         with_reducible rfl
                       rotate_left
                       · simp only [Act.put, sx1, sx2, sx3, i64_w, i32_w]
                         rfl
                       refine take_ (i := 8) (N := some 43) (v := ?_) (a' := ?_) #[true, true, true, true, true, true, true, true, true, true, false, false, false, false] rfl rfl (take_ofW HT_.out HW_.out (by kernel_rfl)) (fun _ _ _ h => h) (Or.inl ⟨by rfl, ?_⟩) hHeld ?_ ?_
                       rotate_left
                       · rintro w' ⟨s0, s1, s2, s3, s4, s5⟩
                         go_simp
                         with_reducible rfl
                       rotate_left
                       · simp only [Act.put, sx1, sx2, sx3, i64_w, i32_w]
                         rfl
                       refine pure_ (i := 10) (N := some 45) (v := ?_) (a' := ?_) #[true, true, true, true, true, true, true, true, true, true, true, false, false, false] rfl rfl (any_of HT_.out (by kernel_rfl)) (fun _ _ _ h => h) (Or.inl ⟨by rfl, ?_⟩) ?_ ?_
                       rotate_left
                       · intro w'
                         go_simp
                         with_reducible rfl
                       rotate_left
                       · simp only [Act.put, sx1, sx2, sx3, i64_w, i32_w]
                         rfl
                       refine take_ (i := 11) (N := some 46) (v := ?_) (a' := ?_) #[true, true, true, true, true, true, true, true, true, true, true, true, false, false] rfl rfl (take_ofW HT_.out HW_.out (by kernel_rfl)) (fun _ _ _ h => h) (Or.inl ⟨by rfl, ?_⟩) hHeld ?_ ?_
                       rotate_left
                       · rintro w' ⟨s0, s1, s2, s3, s4, s5⟩
                         go_simp
                         with_reducible rfl
                       rotate_left
                       · simp only [Act.put, sx1, sx2, sx3, i64_w, i32_w]
                         rfl
                       refine pure_ (i := 12) (N := some 47) (v := ?_) (a' := ?_) #[true, true, true, true, true, true, true, true, true, true, true, true, true, false] rfl rfl (any_of HT_.out (by kernel_rfl)) (fun _ _ _ h => h) (Or.inl ⟨by rfl, ?_⟩) ?_ ?_
                       rotate_left
                       · intro w'
                         go_simp
                         with_reducible rfl
                       rotate_left
                       · simp only [Act.put, sx1, sx2, sx3, i64_w, i32_w]
                         rfl
                       refine take_ (i := 13) (N := some 48) (v := ?_) (a' := ?_) #[true, true, true, true, true, true, true, true, true, true, true, true, true, true] rfl rfl (take_ofW HT_.out HW_.out (by kernel_rfl)) (fun _ _ _ h => h) (Or.inl ⟨by rfl, ?_⟩) hHeld ?_ ?_
                       rotate_left
                       · rintro w' ⟨s0, s1, s2, s3, s4, s5⟩
                         go_simp
                         with_reducible rfl
                       rotate_left
                       · simp only [Act.put, sx1, sx2, sx3, i64_w, i32_w]
                         rfl
                       refine done_ (done_of HT_.out (by kernel_rfl)) ?_
                       try go_wp2
                       go_roundg k2
                       case measure => have := HK1.out; have := HK2.out; omega
                       case rel => exact ⟨(x8_2), (wrap64 (x9_2 + 1)), sz_, H', ⟨by have := HK1.out; have := HK2.out; omega⟩, ⟨by (with_reducible repeat (first | apply Kd.S_alloc | apply Kd.S_drewN | apply Kd.S_drew)); exact HO_5.out⟩, ⟨by (with_reducible repeat (first | apply Kd.R_alloc | apply Kd.R_drewN | apply Kd.R_drew)); exact HO_8.out⟩, ⟨ kz⟩, ⟨ bz⟩⟩
                   · rw [if_neg c16] at H
                     exact absurd H (by simp)
                 · rw [if_neg c15] at H
                   exact absurd H (by simp)
               · rw [if_neg c14] at H
                 exact absurd H (by simp)
             · rw [if_neg c13] at H
               exact absurd H (by simp)
           · rw [if_neg c12] at H
             have c12b0 : decide (x9_2 < ((rd_L4 l0_1 x7_1).length : Int)) = false := decide_eq_false c12
             clear c12
             by_cases c26 : (x8_2.length : Int) = 0
             · rw [if_pos c26] at H
               have c26b0 : ((x8_2.length : Int) == 0) = true := beq_iff_eq.mpr c26
               have c26b1 : ((x8_2.length : Int) != 0) = false := bne_eq_false_iff_eq.mpr c26
               clear c26
               have H' := Aside0.mk H
               clear H
               have hcz27_0 : wr.cell? ⟨gb945, 0, none⟩ = some (.slice A0_0 l0_0.length c0_0) := (blk_cell BK945.out 0).trans rfl
               have hcz27_1 : wr.cell? ⟨gb945, 1, none⟩ = some (.slice A0_1 l0_1.length c0_1) := (blk_cell BK945.out 1).trans rfl
               have hfz27_0 := blk_frozen BK945.out 0
               have hfz27_1 := blk_frozen BK945.out 1
               have p952 : 0 ≤ (x7_1 : Int) := of_decide_eq_true az
               have q952 : x7_1 < (l0_1.length : Int) := of_decide_eq_true az
               obtain ⟨ad952, A952_0, c952_0, e952, hx952_0, hl952_0, hi952_0⟩ := at_L4 HR0_1.out x7_1 p952 q952
               cases e952
               replace hx952_0 := ck HB hx952_0
               have HR952_0 := Aside0.mk hi952_0
               have HC952_0 := Aside0.mk hl952_0
               clear hi952_0 hl952_0
               replace p952 := eq_true p952
               replace q952 := eq_true q952
               obtain ⟨Ao28, co28, eo28⟩ := Kd.R_slice HO_8.out
               subst eo28
               go_wp2
               go_roundg k2
               case measure => have := HK1.out; have := HK2.out; omega
               case rel => exact ⟨(x5_1), (wrap64 (x7_1 + 1)), sz_, H', ⟨by have := HK1.out; have := HK2.out; omega⟩, ⟨by (with_reducible repeat (first | apply Kd.S_alloc | apply Kd.S_drewN | apply Kd.S_drew)); exact Kd.S_mono HO_5.out (fun _ hk => trivial)⟩, ⟨ kz⟩, ⟨ bz⟩⟩
             · rw [if_neg c26] at H
               have c26b0 : ((x8_2.length : Int) == 0) = false := beq_eq_false_iff_ne.mpr c26
               have c26b1 : ((x8_2.length : Int) != 0) = true := bne_iff_ne.mpr c26
               have c26b2 : ¬ (x8_2 = []) := fun h_ => c26 (by rw [h_]; rfl)
               by_cases c29 : 0 ≤ (l0_0.length : Int)
               · rw [if_pos c29] at H
                 have c29b0 := eq_true c29
                 have c29b1 : decide (0 ≤ (l0_0.length : Int)) = true := decide_eq_true c29
                 clear c29
                 by_cases c30 : ((l0_0.length : Int) : Int).toNat ≤ 281474976710656
                 · rw [if_pos c30] at H
                   have c30b0 := eq_true c30
                   have c30b1 : decide (((l0_0.length : Int) : Int).toNat ≤ 281474976710656) = true := decide_eq_true c30
                   clear c30
                   obtain ⟨y962, hy962⟩ : ∃ y_ : List Bool, y_ = (List.replicate ((l0_0.length : Int) : Int).toNat false) := ⟨_, rfl⟩
                   replace H : (if x7_1 < (y962.length : Int) then (spec_l4Loops.l2 k2 l1 x5_1 (l0_0.length : Int) x7_1 (y962.set (x7_1 : Int).toNat true) x8_2 l0_0 l0_1) else (none)) = some r := by first | (rw [hy962]; with_reducible exact H) | (have H2_ := (Option.bind_some _ _).symm.trans H; rw [hy962]; with_reducible exact H2_) | (have H2_ := (Option.bind_some _ _).symm.trans H; with_reducible exact H2_) | with_reducible exact H | (rw [hy962]; exact H) | exact H
                   have Ny962 := Aside0.mk hy962
                   clear hy962
                   by_cases c31 : x7_1 < (y962.length : Int)
                   · rw [if_pos c31] at H
                     have c31b0 : decide (x7_1 < (y962.length : Int)) = true := decide_eq_true c31
                     clear c31
                     obtain ⟨y965, hy965⟩ : ∃ y_ : List Bool, y_ = (y962.set (x7_1 : Int).toNat true) := ⟨_, rfl⟩
                     replace H : (spec_l4Loops.l2 k2 l1 x5_1 (l0_0.length : Int) x7_1 y965 x8_2 l0_0 l0_1) = some r := by first | (rw [hy965]; with_reducible exact H) | (have H2_ := (Option.bind_some _ _).symm.trans H; rw [hy965]; with_reducible exact H2_) | (have H2_ := (Option.bind_some _ _).symm.trans H; with_reducible exact H2_) | with_reducible exact H | (rw [hy965]; exact H) | exact H
                     have Ny965 := Aside0.mk hy965
                     clear hy965
                     have H' := Aside0.mk H
                     clear H
                     have hcz33_0 : wr.cell? ⟨gb945, 0, none⟩ = some (.slice A0_0 l0_0.length c0_0) := (blk_cell BK945.out 0).trans rfl
                     have hcz33_1 : wr.cell? ⟨gb945, 1, none⟩ = some (.slice A0_1 l0_1.length c0_1) := (blk_cell BK945.out 1).trans rfl
                     have hfz33_0 := blk_frozen BK945.out 0
                     have hfz33_1 := blk_frozen BK945.out 1
                     have p952 : 0 ≤ (x7_1 : Int) := of_decide_eq_true az
                     have q952 : x7_1 < (l0_1.length : Int) := of_decide_eq_true az
                     obtain ⟨ad952, A952_0, c952_0, e952, hx952_0, hl952_0, hi952_0⟩ := at_L4 HR0_1.out x7_1 p952 q952
                     cases e952
                     replace hx952_0 := ck HB hx952_0
                     have HR952_0 := Aside0.mk hi952_0
                     have HC952_0 := Aside0.mk hl952_0
                     clear hi952_0 hl952_0
                     replace p952 := eq_true p952
                     replace q952 := eq_true q952
                     obtain ⟨Ao34, co34, eo34⟩ := Kd.R_slice HO_8.out
                     subst eo34
                     go_wp2_with (first | ((with_reducible refine gate_dst (N := 64) rfl ?_); refine Kd.R_make Kd.bool _ 4 rfl (N := 64) rfl 54 _ _ rfl (l0_0.length : Int) rfl rfl Try.underlying54 (.bool false) 1 info4 rfl (by decide) (by omega) false (ok := fun _ => True) (okp := fun _ => True) rfl (fun _ hk => hk) trivial (of_decide_eq_true az) (Nat.le_trans (Nat.mul_le_mul_right _ (of_decide_eq_true az : (l0_0.length : Int).toNat ≤ 281474976710656)) (by omega)) (Below.refl _ _) (Nat.le_refl _) ?_; intro v963 w35 ho36 hb hg_ hnew_; clear hg_ hnew_; (first | rw [← Ny962.out] at ho36 | (simp only [Int.reduceToNat] at ho36; rw [← Ny962.out] at ho36)); have n0_ := Aside0.mk (Kd.S_below (rs HO_5.out) hb); have n1_ := Aside0.mk (Kd.R_below (rz HO_8.out) hb); have n2_ := Aside0.mk (Kd.R_lower ho36 (below_size bz)); have n3_ := Aside0.mk (blk_below (g := gb945) (o := .cells #[.slice A0_0 l0_0.length c0_0, .slice (some ad952) l0_1.length c0_1] 52 (0, 0)) kz hb); have n4_ := Aside0.mk (below_step bz hb); clear HO_5; clear HO_8; clear BK945; clear HB; have HO_5 := n0_; have HO_8 := n1_; have HO964 := n2_; have BK945 := n3_; have HB := n4_; clear n0_ n1_ n2_ n3_ n4_; clear hb ho36; have p32 : 0 ≤ (x7_1 : Int) := of_decide_eq_true az; have q32 : (x7_1 : Int) < ((y962.length : Int) : Int) := of_decide_eq_true az; obtain ⟨go32, co32, eo32, gb32, gl32, cl32, HG32⟩ := Kd.R_form HO964.out (by omega); (first | cases eo32 | (injection eo32 with ea_ en_ ec_; (first | subst ea_ | (injection ea_ with ea_; subst ea_)); subst ec_; clear en_)); have GB32 := Aside0.mk gb32; have GG32 := Aside0.mk HG32; clear gb32 gl32 HG32; obtain ⟨hx32_0, hf32_0⟩ := Kd.R_celln false HO964.out (x7_1 : Int) p32 q32; replace p32 := eq_true p32; replace q32 := eq_true q32; obtain ⟨hy37_, hz37_⟩ := Kd.R_celln false HO964.out (x7_1 : Int) (of_decide_eq_true az) (of_decide_eq_true az); have HP37 := Kd.R_putg HO964.out (x7_1 : Int) true) | ((with_reducible refine gate_store (t := 4) (p := 67) rfl ?_); refine store_event (t := 4) (p := 67) (v := ?vo_w38) (w1 := (w35.setCell ⟨go32, (x7_1 : Int).toNat, none⟩ (.bool true))) ?hg ?ho ?hn ?hr ?_; (case ho => rfl); (case hg => rfl); (case hn => rfl); (case hr => first | (go_simp; done) | (go_simp; rfl)); intro w38 hw; have hg : w35.grownBy w38 (some go32) := (by rw [hw]; exact HP37.2); have hp_ : Kd.R Kd.bool 4 w38 w.heap.size (fun _ => True) (.slice (some ⟨go32, 0, none⟩) y962.length co32) y965 := (by rw [hw, Ny965.out]; exact HP37.1); clear HP37; have n0_ := Aside0.mk (Kd.S_over' (v := (.slice (some ⟨go32, 0, none⟩) y962.length co32)) (rs HO_5.out) (Kd.R_typed HO964.out) (by decide) hg); have n1_ := Aside0.mk (Kd.R_over' (v := (.slice (some ⟨go32, 0, none⟩) y962.length co32)) (rz HO_8.out) (Kd.R_typed HO964.out) (by decide) hg); have n2_ := Aside0.mk (blk_grown (g := gb945) (o := .cells #[.slice A0_0 l0_0.length c0_0, .slice (some ad952) l0_1.length c0_1] 52 (0, 0)) kz hg (Kd.R_ne HO964.out BK945.out (by decide))); have n3_ := Aside0.mk (hp_); have n4_ := Aside0.mk ((by rw [hw]; exact below_set (HB.out) GB32.out : Below w.heap.size w w38)); clear HO_5; clear HO_8; clear BK945; clear HO964; clear HB; have HO_5 := n0_; have HO_8 := n1_; have BK945 := n2_; have HO964 := n3_; have HB := n4_; clear n0_ n1_ n2_ n3_ n4_; clear hg hw hp_))
                     go_loopg [11] k2 (fun kq v11 w' => ∃ (x10_3 : List Bool) (x11_3 : List Int), Aside0 (spec_l4Loops.l2 kq l1 x5_1 (l0_0.length : Int) x7_1 x10_3 x11_3 l0_0 l0_1 = some r) ∧ Aside0 (kq ≤ k2) ∧ Aside0 (Kd.S k86 86 w' w.heap.size (fun k_ => some k_ ≠ (v11 : Value).ownBlock) u5 x5_1) ∧ Aside0 (Kd.R Kd.bool 4 w' w.heap.size (fun _ => True) (.slice (some ⟨go32, 0, none⟩) y962.length co32) x10_3) ∧ Aside0 (Kd.Q (Kd.int .i64) 2 w' w.heap.size (fun _ => True) v11 x11_3) ∧ Aside0 (w'.heap[gb945]? = some (.cells #[(.slice A0_0 l0_0.length c0_0), (.slice (some ad952) l0_1.length c0_1)] 52 (0, 0))) ∧ Aside0 (Below w.heap.size w w'))
                     case atStart => exact ⟨(y965), (x8_2), H', ⟨Nat.le_refl _⟩, ⟨by (with_reducible repeat (first | apply Kd.S_alloc | apply Kd.S_drewN | apply Kd.S_drew)); exact HO_5.out⟩, ⟨by (with_reducible repeat (first | apply Kd.R_alloc | apply Kd.R_drewN | apply Kd.R_drew)); exact HO964.out⟩, ⟨Kd.Q_of_R (rz HO_8.out)⟩, ⟨ kz⟩, ⟨ bz⟩⟩
                     case round =>
                      clear H'
                      try clear c1
                      try clear q1
                      try clear c2
                      try clear p2
                      try clear c3
                      try clear p3
                      try clear q3
                      try clear hx3
                      try clear hf3
                      try clear c6
                      try clear p6
                      try clear c7
                      try clear c7b0
                      try clear c9
                      try clear p9
                      try clear q9
                      try clear hx9
                      try clear c10
                      try clear c10b0
                      try clear c11
                      try clear c11b0
                      try clear c12
                      try clear c12b0
                      try clear c13
                      try clear c13b0
                      try clear c14
                      try clear c14b0
                      try clear c15
                      try clear c15b0
                      try clear c16
                      try clear c16b0
                      try clear q17
                      try clear c18
                      try clear c19
                      try clear c26
                      try clear c26b0
                      try clear c26b1
                      try clear c26b2
                      try clear c29
                      try clear c29b0
                      try clear c29b1
                      try clear c30
                      try clear c30b0
                      try clear c30b1
                      try clear c31
                      try clear c31b0
                      try clear p32
                      try clear q32
                      try clear hx32
                      try clear hf32
                      try clear hcz20_0
                      try clear hcz20_1
                      try clear hcz22_0
                      try clear hcz22_1
                      try clear hcz24_0
                      try clear hcz24_1
                      try clear hcz27_0
                      try clear hcz27_1
                      try clear hcz33_0
                      try clear hcz33_1
                      try clear hcz6_0
                      try clear hcz6_1
                      try clear hfz20_0
                      try clear hfz20_1
                      try clear hfz22_0
                      try clear hfz22_1
                      try clear hfz24_0
                      try clear hfz24_1
                      try clear hfz27_0
                      try clear hfz27_1
                      try clear hfz33_0
                      try clear hfz33_1
                      try clear hfz6_0
                      try clear hfz6_1
                      try clear hx32_0
                      try clear hx952_0
                      try clear hx953_0
                      try clear hx954_0
                      try clear hx955_0
                      try clear hx956_0
                      try clear hx957_0
                      try clear hx958_0
                      try clear p2
                      try clear p32
                      try clear p952
                      try clear p953
                      try clear p954
                      try clear p955
                      try clear p956
                      try clear p957
                      try clear p958
                      try clear q32
                      try clear q952
                      try clear q953
                      try clear q954
                      try clear q955
                      try clear q956
                      try clear q957
                      try clear q958
                      obtain ⟨x10_3, x11_3, HA, HK3, HO_5, HO_10, HO_11, BK945, HB⟩ := hrel
                      have hl10_3 := (Kd.R_reads' HO_10.out).1
                      rw [hl10_3] at HO_10
                      (try simp only [hl10_3])
                      (try simp only [hl10_3] at BK945)
                      (try simp only [hl10_3] at HO_5)
                      (try simp only [hl10_3] at HO_11)
                      cases gk with
                      | zero => exact absurd HA.out (by simp [spec_l4Loops.l2])
                      | succ k3 =>
                       have H := HA.out
                       clear HA
                       simp only [spec_l4Loops.l2] at H
                       by_cases c39 : (x11_3.length : Int) > 0
                       · rw [if_pos c39] at H
                         have c39b0 : decide (0 < (x11_3.length : Int)) = true := decide_eq_true c39
                         have c39b1 : decide (0 < x11_3.length) = true := decide_eq_true (by omega)
                         clear c39
                         by_cases c40 : 0 < (x11_3.length : Int)
                         · rw [if_pos c40] at H
                           have c40b0 : decide (0 < (x11_3.length : Int)) = true := decide_eq_true c40
                           have c40b1 : decide (0 < x11_3.length) = true := decide_eq_true (by omega)
                           clear c40
                           by_cases c41 : 1 ≤ (x11_3.length : Int)
                           · rw [if_pos c41] at H
                             have c41b0 := eq_true c41
                             have c41b1 : decide (1 ≤ (x11_3.length : Int)) = true := decide_eq_true c41
                             clear c41
                             obtain ⟨y967, hy967⟩ : ∃ y_ : List Int, y_ = (x11_3.drop (1 : Int).toNat) := ⟨_, rfl⟩
                             replace H : (if 0 ≤ (rd x11_3 0) then (if (rd x11_3 0) < (x10_3.length : Int) then (if rdOf false x10_3 (rd x11_3 0) = true then (spec_l4Loops.l2 k3 l1 x5_1 (l0_0.length : Int) x7_1 x10_3 y967 l0_0 l0_1) else (if 0 < (l1.length : Int) then (if (rd x11_3 0) < ((rd_L19 l1 0).length : Int) then (if (rdOf false (rd_L19 l1 0) (rd x11_3 0) = true) then ((some (([] : List Int) : List Int)).bind fun y974 => (if y974.length + y967.length < 17592186044416 then ((some (y974 ++ y967 : List Int)).bind fun y977 => (if (rd x11_3 0) < (l0_1.length : Int) then (if y977.length + (rd_L4 l0_1 (rd x11_3 0)).length < 17592186044416 then (spec_l4Loops.l2 k3 l1 x5_1 (l0_0.length : Int) x7_1 (x10_3.set ((rd x11_3 0) : Int).toNat true) (y977 ++ (rd_L4 l0_1 (rd x11_3 0))) l0_0 l0_1) else (none)) else (none))) else (none))) else (spec_l4Loops.l2 k3 l1 x5_1 (l0_0.length : Int) x7_1 x10_3 y967 l0_0 l0_1)) else (none)) else (none))) else (none)) else (none)) = some r := by first | (rw [hy967]; with_reducible exact H) | (have H2_ := (Option.bind_some _ _).symm.trans H; rw [hy967]; with_reducible exact H2_) | (have H2_ := (Option.bind_some _ _).symm.trans H; with_reducible exact H2_) | with_reducible exact H | (rw [hy967]; exact H) | exact H
                             have Ny967 := Aside0.mk hy967
                             clear hy967
                             by_cases c42 : 0 ≤ (rd x11_3 0)
                             · rw [if_pos c42] at H
                               have c42b0 : decide (0 ≤ (rd x11_3 0)) = true := decide_eq_true c42
                               clear c42
                               by_cases c43 : (rd x11_3 0) < (x10_3.length : Int)
                               · rw [if_pos c43] at H
                                 have c43b0 : decide ((rd x11_3 0) < (x10_3.length : Int)) = true := decide_eq_true c43
                                 clear c43
                                 obtain ⟨bq44, hbq44⟩ : ∃ b_ : Bool, b_ = (rdOf false x10_3 (rd x11_3 0)) := ⟨_, rfl⟩
                                 replace H : (if bq44 = true then (spec_l4Loops.l2 k3 l1 x5_1 (l0_0.length : Int) x7_1 x10_3 y967 l0_0 l0_1) else (if 0 < (l1.length : Int) then (if (rd x11_3 0) < ((rd_L19 l1 0).length : Int) then (if (rdOf false (rd_L19 l1 0) (rd x11_3 0) = true) then ((some (([] : List Int) : List Int)).bind fun y974 => (if y974.length + y967.length < 17592186044416 then ((some (y974 ++ y967 : List Int)).bind fun y977 => (if (rd x11_3 0) < (l0_1.length : Int) then (if y977.length + (rd_L4 l0_1 (rd x11_3 0)).length < 17592186044416 then (spec_l4Loops.l2 k3 l1 x5_1 (l0_0.length : Int) x7_1 (x10_3.set ((rd x11_3 0) : Int).toNat true) (y977 ++ (rd_L4 l0_1 (rd x11_3 0))) l0_0 l0_1) else (none)) else (none))) else (none))) else (spec_l4Loops.l2 k3 l1 x5_1 (l0_0.length : Int) x7_1 x10_3 y967 l0_0 l0_1)) else (none)) else (none))) = some r := by rw [← hbq44] at H; exact H
                                 have Nbq44 := Aside0.mk hbq44
                                 clear hbq44
                                 by_cases c45 : bq44 = true
                                 · subst c45
                                   have H1 : (spec_l4Loops.l2 k3 l1 x5_1 (l0_0.length : Int) x7_1 x10_3 y967 l0_0 l0_1) = some r := by rw [if_pos rfl] at H; exact H
                                   clear H
                                   have H := H1
                                   clear H1
                                   have H' := Aside0.mk H
                                   clear H
                                   obtain ⟨Ao46, co46, eo46, _⟩ := Kd.Q_slice HO_11.out
                                   subst eo46
                                   have p966 : 0 ≤ (0 : Int) := (by omega)
                                   have q966 : 0 < (x11_3.length : Int) := of_decide_eq_true az
                                   obtain ⟨ad966, e966, hx966_0⟩ := Kd.at_int (Kd.Q_reads' HO_11.out).2.2 0 p966 q966
                                   cases e966
                                   have qi966 : (0 < x11_3.length) = True := eq_true (by omega)
                                   (try rw [show ((0 : Int)).toNat = 0 from rfl] at hx966_0)
                                   (try rw [Addr.add_zero'] at hx966_0)
                                   replace p966 := eq_true p966
                                   replace q966 := eq_true q966
                                   have q47 : (1 : Int) ≤ ((x11_3.length : Int) : Int) := of_decide_eq_true az
                                   obtain ⟨i047, hi047, _, hsz47, _⟩ := info_parts info2
                                   have hcut47 := cut_from (P := Try.prog) 22 2 .i64 Try.underlying22 hi047 1 hsz47 (some ad966) x11_3.length co46 1 (by omega) q47
                                   have hr47 := Kd.Q_drop (k := (1 : Int).toNat) HO_11.out (by omega)
                                   obtain ⟨A47, hA47⟩ : ∃ A1, A1 = (if co46 = (1 : Int).toNat then (some ad966) else ((some ad966) : Option Addr).map (·.add ((1 : Int).toNat * 1))) := ⟨_, rfl⟩
                                   obtain ⟨c47, hc47⟩ : ∃ c1, c1 = co46 - (1 : Int).toNat := ⟨_, rfl⟩
                                   have hy47 : y967.length = x11_3.length - (1 : Int).toNat := (by rw [Ny967.out, List.length_drop])
                                   rw [← Ny967.out] at hr47
                                   rw [← hy47, ← hA47, ← hc47] at hcut47
                                   replace hr47 : Kd.Q (Kd.int .i64) 2 wr w.heap.size (fun _ => True) (.slice A47 y967.length c47) y967 := (by rw [hA47, hc47, hy47]; exact hr47)
                                   have HE47 : Aside0 ((Value.slice A47 y967.length c47).ownBlock = (.slice (some ad966) x11_3.length co46 : Value).ownBlock) := ⟨by rw [hA47]; split <;> (cases ((some ad966) : Option Addr) <;> rfl)⟩
                                   clear hy47 hi047 hsz47 HO_11 hA47 hc47
                                   have HO969 := Aside0.mk hr47
                                   clear hr47
                                   replace q47 := eq_true q47
                                   have n_ := Aside0.mk (Kd.S_mono (ok' := fun k_ => some k_ ≠ (.slice A47 y967.length c47 : Value).ownBlock) HO_5.out (fun k_ hk => (by rw [HE47.out]; exact hk)))
                                   clear HO_5
                                   have HO_5 := n_
                                   clear n_
                                   have p970 : 0 ≤ ((rd x11_3 0) : Int) := of_decide_eq_true az
                                   have q970 : (rd x11_3 0) < (x10_3.length : Int) := of_decide_eq_true az
                                   obtain ⟨ad970, e970, hx970_0⟩ := Kd.at_bool (Kd.R_reads' HO_10.out).2.2 (rd x11_3 0) p970 q970
                                   (try rw [← Nbq44.out] at hx970_0)
                                   obtain rfl : (⟨go32, 0, none⟩ : Addr) = ad970 := (by injection e970)
                                   (first | simp only [add_plain] at hx970_0 | simp only [add_at] at hx970_0 | simp only [Addr.add, Nat.zero_add] at hx970_0 | skip)
                                   replace p970 := eq_true p970
                                   replace q970 := eq_true q970
                                   go_wp2
                                   (try simp only [← hl10_3])
                                   go_roundg k3
                                   case measure => have := HK1.out; have := HK2.out; have := HK3.out; omega
                                   case rel => exact ⟨(x10_3), (y967), H', ⟨by have := HK1.out; have := HK2.out; have := HK3.out; omega⟩, ⟨by (try simp only [hl10_3]); (with_reducible repeat (first | apply Kd.S_alloc | apply Kd.S_drewN | apply Kd.S_drew)); exact HO_5.out⟩, ⟨by (try simp only [hl10_3]); (with_reducible repeat (first | apply Kd.R_alloc | apply Kd.R_drewN | apply Kd.R_drew)); exact HO_10.out⟩, ⟨by (try simp only [hl10_3]); (with_reducible repeat (first | apply Kd.Q_alloc | apply Kd.Q_drewN | apply Kd.Q_drew)); exact HO969.out⟩, ⟨by (try simp only [hl10_3]); (with_reducible repeat (first | refine blk_drewN ?_ _ | refine blk_drew ?_ | refine blk_alloc ?_ _)); exact BK945.out⟩, ⟨ bz⟩⟩
                                 · replace c45 := Bool.eq_false_iff.mpr c45
                                   subst c45
                                   have H1 : (if 0 < (l1.length : Int) then (if (rd x11_3 0) < ((rd_L19 l1 0).length : Int) then (if (rdOf false (rd_L19 l1 0) (rd x11_3 0) = true) then ((some (([] : List Int) : List Int)).bind fun y974 => (if y974.length + y967.length < 17592186044416 then ((some (y974 ++ y967 : List Int)).bind fun y977 => (if (rd x11_3 0) < (l0_1.length : Int) then (if y977.length + (rd_L4 l0_1 (rd x11_3 0)).length < 17592186044416 then (spec_l4Loops.l2 k3 l1 x5_1 (l0_0.length : Int) x7_1 (x10_3.set ((rd x11_3 0) : Int).toNat true) (y977 ++ (rd_L4 l0_1 (rd x11_3 0))) l0_0 l0_1) else (none)) else (none))) else (none))) else (spec_l4Loops.l2 k3 l1 x5_1 (l0_0.length : Int) x7_1 x10_3 y967 l0_0 l0_1)) else (none)) else (none)) = some r := by rw [if_neg (show ¬ (false = true) by decide)] at H; exact H
                                   clear H
                                   have H := H1
                                   clear H1
                                   by_cases c48 : 0 < (l1.length : Int)
                                   · rw [if_pos c48] at H
                                     have c48b0 : decide (0 < (l1.length : Int)) = true := decide_eq_true c48
                                     have c48b1 : decide (0 < l1.length) = true := decide_eq_true (by omega)
                                     clear c48
                                     by_cases c49 : (rd x11_3 0) < ((rd_L19 l1 0).length : Int)
                                     · rw [if_pos c49] at H
                                       have c49b0 : decide ((rd x11_3 0) < ((rd_L19 l1 0).length : Int)) = true := decide_eq_true c49
                                       clear c49
                                       obtain ⟨bq50, hbq50⟩ : ∃ b_ : Bool, b_ = (rdOf false (rd_L19 l1 0) (rd x11_3 0)) := ⟨_, rfl⟩
                                       replace H : (if (bq50 = true) then ((some (([] : List Int) : List Int)).bind fun y974 => (if y974.length + y967.length < 17592186044416 then ((some (y974 ++ y967 : List Int)).bind fun y977 => (if (rd x11_3 0) < (l0_1.length : Int) then (if y977.length + (rd_L4 l0_1 (rd x11_3 0)).length < 17592186044416 then (spec_l4Loops.l2 k3 l1 x5_1 (l0_0.length : Int) x7_1 (x10_3.set ((rd x11_3 0) : Int).toNat true) (y977 ++ (rd_L4 l0_1 (rd x11_3 0))) l0_0 l0_1) else (none)) else (none))) else (none))) else (spec_l4Loops.l2 k3 l1 x5_1 (l0_0.length : Int) x7_1 x10_3 y967 l0_0 l0_1)) = some r := by rw [← hbq50] at H; exact H
                                       have Nbq50 := Aside0.mk hbq50
                                       clear hbq50
                                       by_cases c51 : (bq50 = true)
                                       · subst c51
                                         have H1 : ((some (([] : List Int) : List Int)).bind fun y974 => (if y974.length + y967.length < 17592186044416 then ((some (y974 ++ y967 : List Int)).bind fun y977 => (if (rd x11_3 0) < (l0_1.length : Int) then (if y977.length + (rd_L4 l0_1 (rd x11_3 0)).length < 17592186044416 then (spec_l4Loops.l2 k3 l1 x5_1 (l0_0.length : Int) x7_1 (x10_3.set ((rd x11_3 0) : Int).toNat true) (y977 ++ (rd_L4 l0_1 (rd x11_3 0))) l0_0 l0_1) else (none)) else (none))) else (none))) = some r := by rw [if_pos rfl] at H; exact H
                                         clear H
                                         have H := H1
                                         clear H1
                                         obtain ⟨y973, hy973⟩ : ∃ y_ : List Bool, y_ = (x10_3.set ((rd x11_3 0) : Int).toNat true) := ⟨_, rfl⟩
                                         replace H : ((some (([] : List Int) : List Int)).bind fun y974 => (if y974.length + y967.length < 17592186044416 then ((some (y974 ++ y967 : List Int)).bind fun y977 => (if (rd x11_3 0) < (l0_1.length : Int) then (if y977.length + (rd_L4 l0_1 (rd x11_3 0)).length < 17592186044416 then (spec_l4Loops.l2 k3 l1 x5_1 (l0_0.length : Int) x7_1 y973 (y977 ++ (rd_L4 l0_1 (rd x11_3 0))) l0_0 l0_1) else (none)) else (none))) else (none))) = some r := by first | (rw [hy973]; with_reducible exact H) | (have H2_ := (Option.bind_some _ _).symm.trans H; rw [hy973]; with_reducible exact H2_) | (have H2_ := (Option.bind_some _ _).symm.trans H; with_reducible exact H2_) | with_reducible exact H | (rw [hy973]; exact H) | exact H
                                         have Ny973 := Aside0.mk hy973
                                         clear hy973
                                         obtain ⟨y974, hy974⟩ : ∃ y_ : List Int, y_ = (([] : List Int)) := ⟨_, rfl⟩
                                         replace H : (if y974.length + y967.length < 17592186044416 then ((some (y974 ++ y967 : List Int)).bind fun y977 => (if (rd x11_3 0) < (l0_1.length : Int) then (if y977.length + (rd_L4 l0_1 (rd x11_3 0)).length < 17592186044416 then (spec_l4Loops.l2 k3 l1 x5_1 (l0_0.length : Int) x7_1 y973 (y977 ++ (rd_L4 l0_1 (rd x11_3 0))) l0_0 l0_1) else (none)) else (none))) else (none)) = some r := by first | (rw [hy974]; with_reducible exact H) | (have H2_ := (Option.bind_some _ _).symm.trans H; rw [hy974]; with_reducible exact H2_) | (have H2_ := (Option.bind_some _ _).symm.trans H; with_reducible exact H2_) | with_reducible exact H | (rw [hy974]; exact H) | exact H
                                         have Ny974 := Aside0.mk hy974
                                         clear hy974
                                         by_cases c53 : y974.length + y967.length < 17592186044416
                                         · rw [if_pos c53] at H
                                           have LMc53 := Aside0.mk c53
                                           clear c53
                                           obtain ⟨y977, hy977⟩ : ∃ y_ : List Int, y_ = (y974 ++ y967) := ⟨_, rfl⟩
                                           replace H : (if (rd x11_3 0) < (l0_1.length : Int) then (if y977.length + (rd_L4 l0_1 (rd x11_3 0)).length < 17592186044416 then (spec_l4Loops.l2 k3 l1 x5_1 (l0_0.length : Int) x7_1 y973 (y977 ++ (rd_L4 l0_1 (rd x11_3 0))) l0_0 l0_1) else (none)) else (none)) = some r := by first | (rw [hy977]; with_reducible exact H) | (have H2_ := (Option.bind_some _ _).symm.trans H; rw [hy977]; with_reducible exact H2_) | (have H2_ := (Option.bind_some _ _).symm.trans H; with_reducible exact H2_) | with_reducible exact H | (rw [hy977]; exact H) | exact H
                                           have Ny977 := Aside0.mk hy977
                                           clear hy977
                                           by_cases c54 : (rd x11_3 0) < (l0_1.length : Int)
                                           · rw [if_pos c54] at H
                                             have c54b0 : decide ((rd x11_3 0) < (l0_1.length : Int)) = true := decide_eq_true c54
                                             clear c54
                                             by_cases c55 : y977.length + (rd_L4 l0_1 (rd x11_3 0)).length < 17592186044416
                                             · rw [if_pos c55] at H
                                               have LMc55 := Aside0.mk c55
                                               clear c55
                                               obtain ⟨y981, hy981⟩ : ∃ y_ : List Int, y_ = (y977 ++ (rd_L4 l0_1 (rd x11_3 0))) := ⟨_, rfl⟩
                                               replace H : (spec_l4Loops.l2 k3 l1 x5_1 (l0_0.length : Int) x7_1 y973 y981 l0_0 l0_1) = some r := by first | (rw [hy981]; with_reducible exact H) | (have H2_ := (Option.bind_some _ _).symm.trans H; rw [hy981]; with_reducible exact H2_) | (have H2_ := (Option.bind_some _ _).symm.trans H; with_reducible exact H2_) | with_reducible exact H | (rw [hy981]; exact H) | exact H
                                               have Ny981 := Aside0.mk hy981
                                               clear hy981
                                               have H' := Aside0.mk H
                                               clear H
                                               obtain ⟨Ao56, co56, eo56, _⟩ := Kd.Q_slice HO_11.out
                                               subst eo56
                                               have p966 : 0 ≤ (0 : Int) := (by omega)
                                               have q966 : 0 < (x11_3.length : Int) := of_decide_eq_true az
                                               obtain ⟨ad966, e966, hx966_0⟩ := Kd.at_int (Kd.Q_reads' HO_11.out).2.2 0 p966 q966
                                               cases e966
                                               have qi966 : (0 < x11_3.length) = True := eq_true (by omega)
                                               (try rw [show ((0 : Int)).toNat = 0 from rfl] at hx966_0)
                                               (try rw [Addr.add_zero'] at hx966_0)
                                               replace p966 := eq_true p966
                                               replace q966 := eq_true q966
                                               have q57 : (1 : Int) ≤ ((x11_3.length : Int) : Int) := of_decide_eq_true az
                                               obtain ⟨i057, hi057, _, hsz57, _⟩ := info_parts info2
                                               have hcut57 := cut_from (P := Try.prog) 22 2 .i64 Try.underlying22 hi057 1 hsz57 (some ad966) x11_3.length co56 1 (by omega) q57
                                               have hr57 := Kd.Q_drop (k := (1 : Int).toNat) HO_11.out (by omega)
                                               obtain ⟨A57, hA57⟩ : ∃ A1, A1 = (if co56 = (1 : Int).toNat then (some ad966) else ((some ad966) : Option Addr).map (·.add ((1 : Int).toNat * 1))) := ⟨_, rfl⟩
                                               obtain ⟨c57, hc57⟩ : ∃ c1, c1 = co56 - (1 : Int).toNat := ⟨_, rfl⟩
                                               have hy57 : y967.length = x11_3.length - (1 : Int).toNat := (by rw [Ny967.out, List.length_drop])
                                               rw [← Ny967.out] at hr57
                                               rw [← hy57, ← hA57, ← hc57] at hcut57
                                               replace hr57 : Kd.Q (Kd.int .i64) 2 wr w.heap.size (fun _ => True) (.slice A57 y967.length c57) y967 := (by rw [hA57, hc57, hy57]; exact hr57)
                                               have HE57 : Aside0 ((Value.slice A57 y967.length c57).ownBlock = (.slice (some ad966) x11_3.length co56 : Value).ownBlock) := ⟨by rw [hA57]; split <;> (cases ((some ad966) : Option Addr) <;> rfl)⟩
                                               clear hy57 hi057 hsz57 HO_11 hA57 hc57
                                               have HO969 := Aside0.mk hr57
                                               clear hr57
                                               replace q57 := eq_true q57
                                               have n_ := Aside0.mk (Kd.S_mono (ok' := fun k_ => some k_ ≠ (.slice A57 y967.length c57 : Value).ownBlock) HO_5.out (fun k_ hk => (by rw [HE57.out]; exact hk)))
                                               clear HO_5
                                               have HO_5 := n_
                                               clear n_
                                               have p970 : 0 ≤ ((rd x11_3 0) : Int) := of_decide_eq_true az
                                               have q970 : (rd x11_3 0) < (x10_3.length : Int) := of_decide_eq_true az
                                               obtain ⟨ad970, e970, hx970_0⟩ := Kd.at_bool (Kd.R_reads' HO_10.out).2.2 (rd x11_3 0) p970 q970
                                               (try rw [← Nbq44.out] at hx970_0)
                                               (try rw [← Nbq50.out] at hx970_0)
                                               obtain rfl : (⟨go32, 0, none⟩ : Addr) = ad970 := (by injection e970)
                                               (first | simp only [add_plain] at hx970_0 | simp only [add_at] at hx970_0 | simp only [Addr.add, Nat.zero_add] at hx970_0 | skip)
                                               replace p970 := eq_true p970
                                               replace q970 := eq_true q970
                                               have p971 : 0 ≤ (0 : Int) := (by omega)
                                               have q971 : 0 < (l1.length : Int) := of_decide_eq_true az
                                               obtain ⟨ad971, A971_0, c971_0, e971, hx971_0, hl971_0, hi971_0⟩ := at_L19 HR1.out 0 p971 q971
                                               cases e971
                                               have qi971 : (0 < l1.length) = True := eq_true (by omega)
                                               (try rw [show ((0 : Int)).toNat = 0 from rfl] at hx971_0)
                                               (try rw [Addr.add_zero'] at hx971_0)
                                               replace hx971_0 := ck HB hx971_0
                                               have HR971_0 := Aside0.mk hi971_0
                                               have HC971_0 := Aside0.mk hl971_0
                                               clear hi971_0 hl971_0
                                               replace p971 := eq_true p971
                                               replace q971 := eq_true q971
                                               have p972 : 0 ≤ ((rd x11_3 0) : Int) := of_decide_eq_true az
                                               have q972 : (rd x11_3 0) < ((rd_L19 l1 0).length : Int) := of_decide_eq_true az
                                               obtain ⟨ad972, e972, hx972_0⟩ := Kd.at_bool HR971_0.out (rd x11_3 0) p972 q972
                                               (try rw [← Nbq44.out] at hx972_0)
                                               (try rw [← Nbq50.out] at hx972_0)
                                               cases e972
                                               replace hx972_0 := ck HB hx972_0
                                               replace p972 := eq_true p972
                                               replace q972 := eq_true q972
                                               have p52 : 0 ≤ ((rd x11_3 0) : Int) := of_decide_eq_true az
                                               have q52 : ((rd x11_3 0) : Int) < ((x10_3.length : Int) : Int) := of_decide_eq_true az
                                               obtain ⟨hx52_0, hf52_0⟩ := Kd.R_celln false HO_10.out ((rd x11_3 0) : Int) p52 q52
                                               replace p52 := eq_true p52
                                               replace q52 := eq_true q52
                                               have HP58 := Kd.R_putg HO_10.out ((rd x11_3 0) : Int) true
                                               try go_wp2_with (first | ((with_reducible refine gate_store (t := 4) (p := 92) rfl ?_); refine store_event (t := 4) (p := 92) (v := ?vo_w59) (w1 := (wr.setCell ⟨go32, ((rd x11_3 0) : Int).toNat, none⟩ (.bool true))) ?hg ?ho ?hn ?hr ?_; (case ho => rfl); (case hg => rfl); (case hn => rfl); (case hr => first | (go_simp; done) | (go_simp; rfl)); intro w59 hw; have hg : wr.grownBy w59 (some go32) := (by rw [hw]; exact HP58.2); have hp_ : Kd.R Kd.bool 4 w59 w.heap.size (fun _ => True) (.slice (some ⟨go32, 0, none⟩) x10_3.length co32) y973 := (by rw [hw, Ny973.out]; exact HP58.1); clear HP58; have n0_ := Aside0.mk (Kd.S_over' (v := (.slice (some ⟨go32, 0, none⟩) x10_3.length co32)) (rs HO_5.out) (Kd.R_typed HO_10.out) (by decide) hg); have n1_ := Aside0.mk (hp_); have n2_ := Aside0.mk (Kd.Q_over' (v := (.slice (some ⟨go32, 0, none⟩) x10_3.length co32)) (by (with_reducible repeat (first | apply Kd.Q_alloc | apply Kd.Q_drewN | apply Kd.Q_drew)); exact HO969.out) (Kd.R_typed HO_10.out) (by decide) hg); have n3_ := Aside0.mk (blk_grown (g := gb945) (o := .cells #[.slice A0_0 l0_0.length c0_0, .slice (some ad952) l0_1.length c0_1] 52 (0, 0)) kz hg (Kd.R_ne HO_10.out BK945.out (by decide))); have n4_ := Aside0.mk ((by rw [hw]; exact below_set (HB.out) GB32.out : Below w.heap.size w w59)); clear HO_5; clear HO_10; clear HO969; clear BK945; clear HB; have HO_5 := n0_; have HO_10 := n1_; have HO969 := n2_; have BK945 := n3_; have HB := n4_; clear n0_ n1_ n2_ n3_ n4_; clear hg hw hp_))
                                               have n0_ := Aside0.mk (Kd.S_drew HO_5.out)
                                               have n1_ := Aside0.mk (Kd.R_drew HO_10.out)
                                               have n2_ := Aside0.mk (Kd.Q_drew HO969.out)
                                               have n3_ := Aside0.mk (blk_drew BK945.out)
                                               have n4_ := Aside0.mk (below_drew1 HB.out)
                                               clear HO_5
                                               clear HO_10
                                               clear HO969
                                               clear BK945
                                               clear HB
                                               have HO_5 := n0_
                                               have HO_10 := n1_
                                               have HO969 := n2_
                                               have BK945 := n3_
                                               have HB := n4_
                                               clear n0_ n1_ n2_ n3_ n4_
                                               have p980 : 0 ≤ ((rd x11_3 0) : Int) := of_decide_eq_true az
                                               have q980 : (rd x11_3 0) < (l0_1.length : Int) := of_decide_eq_true az
                                               obtain ⟨ad980, A980_0, c980_0, e980, hx980_0, hl980_0, hi980_0⟩ := at_L4 HR0_1.out (rd x11_3 0) p980 q980
                                               have hw980_0 := hx980_0
                                               (try rw [← Nbq44.out] at hw980_0)
                                               (try rw [← Nbq50.out] at hw980_0)
                                               obtain rfl : ad952 = ad980 := (by injection e980)
                                               replace hx980_0 := ck HB hx980_0
                                               have HR980_0 := Aside0.mk hi980_0
                                               have HC980_0 := Aside0.mk hl980_0
                                               clear hi980_0 hl980_0
                                               replace p980 := eq_true p980
                                               replace q980 := eq_true q980
                                               refine start_ (n := 10) (S := fun w' => w'.cell? ⟨gb945, 0, none⟩ = some (.slice A0_0 l0_0.length c0_0) ∧ w'.cell? ⟨gb945, 1, none⟩ = some (.slice (some ad952) l0_1.length c0_1) ∧ w'.cell? (ad952.add ((rd x11_3 0)).toNat) = some (.slice A980_0 (rd_L4 l0_1 (rd x11_3 0)).length c980_0)) (ds := []) #[false, false, false, false, false, false, false, false, false, false] (by kernel_rfl) rfl rfl ⟨(blk_cell BK945.out 0).trans rfl, (blk_cell BK945.out 1).trans rfl, (ck HB hw980_0)⟩ (fun hHeld => ?_); refine with_tabW spec_l4Loops.tab21 spec_l4Loops.bits21 (fun HT_ HW_ => ?_)
                                               generalize w59.drew = w60 at HO_5 HO_10 HO969 BK945 HB HR980_0 hx980_0 hHeld ⊢
                                               refine pure_ (i := 1) (N := some 94) (v := ?_) (a' := ?_) #[false, true, false, false, false, false, false, false, false, false] rfl rfl (any_of HT_.out (by kernel_rfl)) (fun _ _ _ h => h) (Or.inl ⟨by rfl, ?_⟩) ?_ ?_
                                               rotate_left
                                               · intro w'
                                                 go_simp
                                                 with_reducible rfl
                                               rotate_left
                                               · simp only [Act.put, sx1, sx2, sx3, i64_w, i32_w]
                                                 rfl
                                               refine pure_ (i := 3) (N := some 96) (v := ?_) (a' := ?_) #[false, true, false, true, false, false, false, false, false, false] rfl rfl (any_of HT_.out (by kernel_rfl)) (fun _ _ _ h => h) (Or.inl ⟨by rfl, ?_⟩) ?_ ?_
                                               rotate_left
                                               · intro w'
                                                 go_simp
                                                 with_reducible rfl
                                               rotate_left
                                               · simp only [Act.put, sx1, sx2, sx3, i64_w, i32_w]
                                                 rfl
                                               refine pure_ (i := 5) (N := some 98) (v := ?_) (a' := ?_) #[false, true, false, true, false, true, false, false, false, false] rfl rfl (any_of HT_.out (by kernel_rfl)) (fun _ _ _ h => h) (Or.inl ⟨by rfl, ?_⟩) ?_ ?_
                                               rotate_left
                                               · intro w'
                                                 go_simp
                                                 with_reducible rfl
                                               rotate_left
                                               · simp only [Act.put, sx1, sx2, sx3, i64_w, i32_w]
                                                 rfl
                                               refine take_ (i := 4) (N := some 97) (v := ?_) (a' := ?_) #[false, true, false, true, true, true, false, false, false, false] rfl rfl (take_ofW HT_.out HW_.out (by kernel_rfl)) (fun _ _ _ h => h) (Or.inl ⟨by rfl, ?_⟩) hHeld ?_ ?_
                                               rotate_left
                                               · rintro w' ⟨s0, s1, s2⟩
                                                 go_simp
                                                 with_reducible rfl
                                               rotate_left
                                               · simp only [Act.put, sx1, sx2, sx3, i64_w, i32_w]
                                                 rfl
                                               refine pure_ (i := 6) (N := some 99) (v := ?_) (a' := ?_) #[false, true, false, true, true, true, true, false, false, false] rfl rfl (any_of HT_.out (by kernel_rfl)) (fun _ _ _ h => h) (Or.inl ⟨by rfl, ?_⟩) ?_ ?_
                                               rotate_left
                                               · intro w'
                                                 go_simp
                                                 with_reducible rfl
                                               rotate_left
                                               · simp only [Act.put, sx1, sx2, sx3, i64_w, i32_w]
                                                 rfl
                                               refine take_ (i := 7) (N := some 100) (v := ?_) (a' := ?_) #[false, true, false, true, true, true, true, true, false, false] rfl rfl (take_ofW HT_.out HW_.out (by kernel_rfl)) (fun _ _ _ h => h) (Or.inl ⟨by rfl, ?_⟩) hHeld ?_ ?_
                                               rotate_left
                                               · rintro w' ⟨s0, s1, s2⟩
                                                 go_simp
                                                 with_reducible rfl
                                               rotate_left
                                               · simp only [Act.put, sx1, sx2, sx3, i64_w, i32_w]
                                                 rfl
                                               refine one_ (i := 0) (N := some 93) #[true, true, false, true, true, true, true, true, false, false] rfl rfl (one_of HT_.out (by kernel_rfl)) (by decide) (fun K hK => ?_)
                                               refine Kd.R_lit_step (Kd.int .i64) _ 2 ?hg (N := 93) ?hd (xs := ([] : List Int)) (inner := []) (ok := fun _ => True) (okp := fun _ => True) ?hr ?hp (fun _ hk => hk) trivial (Below.refl _ _) (Nat.le_refl _) (by simp) ?_; (case hd => rfl); (case hg => rfl); (case hr => first | (go_simp; done) | (go_simp; rfl)); (case hp => exact (Reps.none _ _))
                                               intro v975 w61 ho62 hb hg_ hnew_
                                               clear hg_ hnew_
                                               (first | rw [← Ny974.out] at ho62 | (simp only [Int.reduceToNat] at ho62; rw [← Ny974.out] at ho62))
                                               have n0_ := Aside0.mk (Kd.S_elder' (rs HO_5.out) (Kd.R_base ho62) hb)
                                               have n1_ := Aside0.mk (Kd.R_below (rz HO_10.out) hb)
                                               have n2_ := Aside0.mk (Kd.Q_elder' (by (with_reducible repeat (first | apply Kd.Q_alloc | apply Kd.Q_drewN | apply Kd.Q_drew)); exact HO969.out) (Kd.R_base ho62) hb)
                                               have n3_ := Aside0.mk (Kd.R_lower (Kd.R_new' ho62 (Kd.Q_lt (by (with_reducible repeat (first | apply Kd.Q_alloc | apply Kd.Q_drewN | apply Kd.Q_drew)); exact HO969.out))) (below_size bz))
                                               have n4_ := Aside0.mk (blk_below (g := gb945) (o := .cells #[.slice A0_0 l0_0.length c0_0, .slice (some ad952) l0_1.length c0_1] 52 (0, 0)) kz hb)
                                               have n5_ := Aside0.mk (below_step bz hb)
                                               clear HO_5
                                               clear HO_10
                                               clear HO969
                                               clear BK945
                                               clear HB
                                               have HO_5 := n0_
                                               have HO_10 := n1_
                                               have HO969 := n2_
                                               have HO976 := n3_
                                               have BK945 := n4_
                                               have HB := n5_
                                               clear n0_ n1_ n2_ n3_ n4_ n5_
                                               clear hb ho62
                                               refine hK.out _ _ ⟨(blk_cell BK945.out 0).trans rfl, (blk_cell BK945.out 1).trans rfl, (ck HB hw980_0)⟩ (fun hHeld => ?_)
                                               clear hK K
                                               refine norm_ (a' := ?_) ?_ ?_
                                               rotate_left
                                               · show Act.put _ (some 93) _ = _
                                                 simp only [Act.put, sx1, sx2, sx3, i64_w, i32_w]
                                                 rfl
                                               refine one_ (i := 2) (N := some 95) #[true, true, true, true, true, true, true, true, false, false] rfl rfl (one_of HT_.out (by kernel_rfl)) (by decide) (fun K hK => ?_)
                                               refine Kd.R_append_rows_step (Kd.int .i64) (w0 := w) w.heap.size (by rfl) (.tmp 93) (.tmp 94) 22 2 (.int .i64 0) 8 rfl Try.underlying22 info2 rfl (by decide) (by omega) v975 y974 y967 _ _ _ (fun k_ => some k_ ≠ (.slice A57 y967.length c57 : Value).ownBlock) (fun _ => False) rfl rfl ?aO ?aR (fun _ _ h => h) (fun _ h => h.elim) ?aF ?aB ?aS ?aL ?_
                                               (case aR => repeat (first | exact (Kd.Q_reads' HO969.out).2.2 | (with_reducible refine Kd.C_alloc ?_ _) | (with_reducible refine Kd.C_drewN ?_ _) | (with_reducible refine Kd.C_drew ?_)))
                                               (case aB => exact bz)
                                               (case aF => exact (fun k_ hk => Kd.fresh' (Kd.Q_lt (by (with_reducible repeat (first | apply Kd.Q_alloc | apply Kd.Q_drewN | apply Kd.Q_drew)); exact HO969.out)) k_ hk))
                                               (case aO => exact (by (with_reducible repeat (first | apply Kd.R_alloc | apply Kd.R_drewN | apply Kd.R_drew)); exact Kd.R_mono HO976.out (fun _ hk => hk.2)))
                                               (case aS => exact (below_size bz))
                                               (case aL => have := LMc53.out; omega)
                                               intro v978 w63 ho hb hg hat
                                               rw [← Ny977.out] at ho
                                               have n0_ := Aside0.mk (Kd.S_after (ok := (fun k_ => some k_ ≠ (.slice A57 y967.length c57 : Value).ownBlock)) (rs HO_5.out) hg hat)
                                               have n1_ := Aside0.mk (Kd.R_over' (rz HO_10.out) (Kd.R_typed (rz HO976.out)) (by decide) hg)
                                               have n2_ := Aside0.mk (Kd.Q_after (ok := (fun _ => True)) (by (with_reducible repeat (first | apply Kd.Q_alloc | apply Kd.Q_drewN | apply Kd.Q_drew)); exact HO969.out) hg hat)
                                               have n3_ := Aside0.mk (blk_grown (g := gb945) (o := .cells #[.slice A0_0 l0_0.length c0_0, .slice (some ad952) l0_1.length c0_1] 52 (0, 0)) kz hg (Kd.R_ne HO976.out BK945.out (by decide)))
                                               have n4_ := Aside0.mk (hb)
                                               have n5_ := Aside0.mk (ho)
                                               clear HO_5
                                               clear HO_10
                                               clear HO969
                                               clear BK945
                                               clear HB
                                               clear HO976
                                               have HO_5 := n0_
                                               have HO_10 := n1_
                                               have HO969 := n2_
                                               have BK945 := n3_
                                               have HB := n4_
                                               have HO979 := n5_
                                               clear n0_ n1_ n2_ n3_ n4_ n5_
                                               clear ho hb hg hat
                                               refine hK.out _ _ ⟨(blk_cell BK945.out 0).trans rfl, (blk_cell BK945.out 1).trans rfl, (ck HB hw980_0)⟩ (fun hHeld => ?_)
                                               clear hK K
                                               refine norm_ (a' := ?_) ?_ ?_
                                               rotate_left
                                               · show Act.put _ (some 95) _ = _
                                                 simp only [Act.put, sx1, sx2, sx3, i64_w, i32_w]
                                                 rfl
                                               refine one_ (i := 8) (N := some 101) #[true, true, true, true, true, true, true, true, true, false] rfl rfl (one_of HT_.out (by kernel_rfl)) (by decide) (fun K hK => ?_)
                                               refine Kd.R_append_rows_step (Kd.int .i64) (w0 := w) w.heap.size (by rfl) (.tmp 95) (.tmp 100) 22 2 (.int .i64 0) 8 rfl Try.underlying22 info2 rfl (by decide) (by omega) v978 y977 (rd_L4 l0_1 (rd x11_3 0)) _ _ _ (fun k_ => some k_ ≠ (.slice A57 y967.length c57 : Value).ownBlock) (fun _ => False) rfl rfl ?aO ?aR (fun _ _ h => h) (fun _ h => h.elim) ?aF ?aB ?aS ?aL ?_
                                               (case aR => exact cz HR980_0.out)
                                               (case aB => exact bz)
                                               (case aF => exact (fun k_ hk => Kd.fresh' (Kd.Q_lt (by (with_reducible repeat (first | apply Kd.Q_alloc | apply Kd.Q_drewN | apply Kd.Q_drew)); exact HO969.out)) k_ hk))
                                               (case aO => exact (rz HO979.out))
                                               (case aS => exact (below_size bz))
                                               (case aL => have := LMc55.out; omega)
                                               intro v982 w64 ho hb hg hat
                                               rw [← Ny981.out] at ho
                                               have n0_ := Aside0.mk (Kd.S_after (ok := (fun k_ => some k_ ≠ (.slice A57 y967.length c57 : Value).ownBlock)) (rs HO_5.out) hg hat)
                                               have n1_ := Aside0.mk (Kd.R_over' (rz HO_10.out) (Kd.R_typed (rz HO979.out)) (by decide) hg)
                                               have n2_ := Aside0.mk (Kd.Q_after (ok := (fun _ => True)) (by (with_reducible repeat (first | apply Kd.Q_alloc | apply Kd.Q_drewN | apply Kd.Q_drew)); exact HO969.out) hg hat)
                                               have n3_ := Aside0.mk (blk_grown (g := gb945) (o := .cells #[.slice A0_0 l0_0.length c0_0, .slice (some ad952) l0_1.length c0_1] 52 (0, 0)) kz hg (Kd.R_ne HO979.out BK945.out (by decide)))
                                               have n4_ := Aside0.mk (hb)
                                               have n5_ := Aside0.mk (ho)
                                               clear HO_5
                                               clear HO_10
                                               clear HO969
                                               clear BK945
                                               clear HB
                                               clear HO979
                                               have HO_5 := n0_
                                               have HO_10 := n1_
                                               have HO969 := n2_
                                               have BK945 := n3_
                                               have HB := n4_
                                               have HO983 := n5_
                                               clear n0_ n1_ n2_ n3_ n4_ n5_
                                               clear ho hb hg hat
                                               refine hK.out _ _ ⟨(blk_cell BK945.out 0).trans rfl, (blk_cell BK945.out 1).trans rfl, (ck HB hw980_0)⟩ (fun hHeld => ?_)
                                               clear hK K
                                               refine norm_ (a' := ?_) ?_ ?_
                                               rotate_left
                                               · show Act.put _ (some 101) _ = _
                                                 simp only [Act.put, sx1, sx2, sx3, i64_w, i32_w]
                                                 rfl
                                               refine pure_ (i := 9) (N := some 11) (v := ?_) (a' := ?_) #[true, true, true, true, true, true, true, true, true, true] rfl rfl (any_of HT_.out (by kernel_rfl)) (fun _ _ _ h => h) (Or.inl ⟨by rfl, ?_⟩) ?_ ?_
                                               rotate_left
                                               · intro w'
                                                 go_simp
                                                 with_reducible rfl
                                               rotate_left
                                               · simp only [Act.put, sx1, sx2, sx3, i64_w, i32_w]
                                                 rfl
                                               refine done_ (done_of HT_.out (by kernel_rfl)) ?_
                                               try go_wp2
                                               (try simp only [← hl10_3])
                                               go_roundg k3
                                               case measure => have := HK1.out; have := HK2.out; have := HK3.out; omega
                                               case rel => exact ⟨(y973), (y981), H', ⟨by have := HK1.out; have := HK2.out; have := HK3.out; omega⟩, ⟨by (try simp only [hl10_3]); (with_reducible repeat (first | apply Kd.S_alloc | apply Kd.S_drewN | apply Kd.S_drew)); exact Kd.S_mono HO_5.out (fun _ hk => hk.2)⟩, ⟨by (try simp only [hl10_3]); (with_reducible repeat (first | apply Kd.R_alloc | apply Kd.R_drewN | apply Kd.R_drew)); exact HO_10.out⟩, ⟨Kd.Q_of_R (by (try simp only [hl10_3]); (with_reducible repeat (first | apply Kd.R_alloc | apply Kd.R_drewN | apply Kd.R_drew)); exact Kd.R_mono HO983.out (fun _ hk => trivial))⟩, ⟨by (try simp only [hl10_3]); (with_reducible repeat (first | refine blk_drewN ?_ _ | refine blk_drew ?_ | refine blk_alloc ?_ _)); exact BK945.out⟩, ⟨ bz⟩⟩
                                             · rw [if_neg c55] at H
                                               exact absurd H (by simp)
                                           · rw [if_neg c54] at H
                                             exact absurd H (by simp)
                                         · rw [if_neg c53] at H
                                           exact absurd H (by simp)
                                       · replace c51 := Bool.eq_false_iff.mpr c51
                                         subst c51
                                         have H1 : (spec_l4Loops.l2 k3 l1 x5_1 (l0_0.length : Int) x7_1 x10_3 y967 l0_0 l0_1) = some r := by rw [if_neg (show ¬ (false = true) by decide)] at H; exact H
                                         clear H
                                         have H := H1
                                         clear H1
                                         have H' := Aside0.mk H
                                         clear H
                                         obtain ⟨Ao65, co65, eo65, _⟩ := Kd.Q_slice HO_11.out
                                         subst eo65
                                         have p966 : 0 ≤ (0 : Int) := (by omega)
                                         have q966 : 0 < (x11_3.length : Int) := of_decide_eq_true az
                                         obtain ⟨ad966, e966, hx966_0⟩ := Kd.at_int (Kd.Q_reads' HO_11.out).2.2 0 p966 q966
                                         cases e966
                                         have qi966 : (0 < x11_3.length) = True := eq_true (by omega)
                                         (try rw [show ((0 : Int)).toNat = 0 from rfl] at hx966_0)
                                         (try rw [Addr.add_zero'] at hx966_0)
                                         replace p966 := eq_true p966
                                         replace q966 := eq_true q966
                                         have q66 : (1 : Int) ≤ ((x11_3.length : Int) : Int) := of_decide_eq_true az
                                         obtain ⟨i066, hi066, _, hsz66, _⟩ := info_parts info2
                                         have hcut66 := cut_from (P := Try.prog) 22 2 .i64 Try.underlying22 hi066 1 hsz66 (some ad966) x11_3.length co65 1 (by omega) q66
                                         have hr66 := Kd.Q_drop (k := (1 : Int).toNat) HO_11.out (by omega)
                                         obtain ⟨A66, hA66⟩ : ∃ A1, A1 = (if co65 = (1 : Int).toNat then (some ad966) else ((some ad966) : Option Addr).map (·.add ((1 : Int).toNat * 1))) := ⟨_, rfl⟩
                                         obtain ⟨c66, hc66⟩ : ∃ c1, c1 = co65 - (1 : Int).toNat := ⟨_, rfl⟩
                                         have hy66 : y967.length = x11_3.length - (1 : Int).toNat := (by rw [Ny967.out, List.length_drop])
                                         rw [← Ny967.out] at hr66
                                         rw [← hy66, ← hA66, ← hc66] at hcut66
                                         replace hr66 : Kd.Q (Kd.int .i64) 2 wr w.heap.size (fun _ => True) (.slice A66 y967.length c66) y967 := (by rw [hA66, hc66, hy66]; exact hr66)
                                         have HE66 : Aside0 ((Value.slice A66 y967.length c66).ownBlock = (.slice (some ad966) x11_3.length co65 : Value).ownBlock) := ⟨by rw [hA66]; split <;> (cases ((some ad966) : Option Addr) <;> rfl)⟩
                                         clear hy66 hi066 hsz66 HO_11 hA66 hc66
                                         have HO969 := Aside0.mk hr66
                                         clear hr66
                                         replace q66 := eq_true q66
                                         have n_ := Aside0.mk (Kd.S_mono (ok' := fun k_ => some k_ ≠ (.slice A66 y967.length c66 : Value).ownBlock) HO_5.out (fun k_ hk => (by rw [HE66.out]; exact hk)))
                                         clear HO_5
                                         have HO_5 := n_
                                         clear n_
                                         have p970 : 0 ≤ ((rd x11_3 0) : Int) := of_decide_eq_true az
                                         have q970 : (rd x11_3 0) < (x10_3.length : Int) := of_decide_eq_true az
                                         obtain ⟨ad970, e970, hx970_0⟩ := Kd.at_bool (Kd.R_reads' HO_10.out).2.2 (rd x11_3 0) p970 q970
                                         (try rw [← Nbq44.out] at hx970_0)
                                         (try rw [← Nbq50.out] at hx970_0)
                                         obtain rfl : (⟨go32, 0, none⟩ : Addr) = ad970 := (by injection e970)
                                         (first | simp only [add_plain] at hx970_0 | simp only [add_at] at hx970_0 | simp only [Addr.add, Nat.zero_add] at hx970_0 | skip)
                                         replace p970 := eq_true p970
                                         replace q970 := eq_true q970
                                         have p971 : 0 ≤ (0 : Int) := (by omega)
                                         have q971 : 0 < (l1.length : Int) := of_decide_eq_true az
                                         obtain ⟨ad971, A971_0, c971_0, e971, hx971_0, hl971_0, hi971_0⟩ := at_L19 HR1.out 0 p971 q971
                                         cases e971
                                         have qi971 : (0 < l1.length) = True := eq_true (by omega)
                                         (try rw [show ((0 : Int)).toNat = 0 from rfl] at hx971_0)
                                         (try rw [Addr.add_zero'] at hx971_0)
                                         replace hx971_0 := ck HB hx971_0
                                         have HR971_0 := Aside0.mk hi971_0
                                         have HC971_0 := Aside0.mk hl971_0
                                         clear hi971_0 hl971_0
                                         replace p971 := eq_true p971
                                         replace q971 := eq_true q971
                                         have p972 : 0 ≤ ((rd x11_3 0) : Int) := of_decide_eq_true az
                                         have q972 : (rd x11_3 0) < ((rd_L19 l1 0).length : Int) := of_decide_eq_true az
                                         obtain ⟨ad972, e972, hx972_0⟩ := Kd.at_bool HR971_0.out (rd x11_3 0) p972 q972
                                         (try rw [← Nbq44.out] at hx972_0)
                                         (try rw [← Nbq50.out] at hx972_0)
                                         cases e972
                                         replace hx972_0 := ck HB hx972_0
                                         replace p972 := eq_true p972
                                         replace q972 := eq_true q972
                                         go_wp2
                                         (try simp only [← hl10_3])
                                         go_roundg k3
                                         case measure => have := HK1.out; have := HK2.out; have := HK3.out; omega
                                         case rel => exact ⟨(x10_3), (y967), H', ⟨by have := HK1.out; have := HK2.out; have := HK3.out; omega⟩, ⟨by (try simp only [hl10_3]); (with_reducible repeat (first | apply Kd.S_alloc | apply Kd.S_drewN | apply Kd.S_drew)); exact HO_5.out⟩, ⟨by (try simp only [hl10_3]); (with_reducible repeat (first | apply Kd.R_alloc | apply Kd.R_drewN | apply Kd.R_drew)); exact HO_10.out⟩, ⟨by (try simp only [hl10_3]); (with_reducible repeat (first | apply Kd.Q_alloc | apply Kd.Q_drewN | apply Kd.Q_drew)); exact HO969.out⟩, ⟨by (try simp only [hl10_3]); (with_reducible repeat (first | refine blk_drewN ?_ _ | refine blk_drew ?_ | refine blk_alloc ?_ _)); exact BK945.out⟩, ⟨ bz⟩⟩
                                     · rw [if_neg c49] at H
                                       exact absurd H (by simp)
                                   · rw [if_neg c48] at H
                                     exact absurd H (by simp)
                               · rw [if_neg c43] at H
                                 exact absurd H (by simp)
                             · rw [if_neg c42] at H
                               exact absurd H (by simp)
                           · rw [if_neg c41] at H
                             exact absurd H (by simp)
                         · rw [if_neg c40] at H
                           exact absurd H (by simp)
                       · rw [if_neg c39] at H
                         have c39b0 : decide (0 < (x11_3.length : Int)) = false := decide_eq_false c39
                         have c39b1 : decide (0 < x11_3.length) = false := decide_eq_false (by omega)
                         clear c39
                         have H' := Aside0.mk H
                         clear H
                         obtain ⟨Ao67, co67, eo67, _⟩ := Kd.Q_slice HO_11.out
                         subst eo67
                         go_wp2_with (first | ((with_reducible refine gate_dst (N := 13) rfl ?_); refine box_event ?hg (N := 13) ?hd (cs := #[.int .i64 0, .slice none 0 0]) (t := 86) ?hr ?_; (case hd => rfl); (case hg => rfl); (case hr => first | (go_simp; done) | (go_simp; rfl)); intro gb984 hg w68 hbox hb; have n0_ := Aside0.mk (Kd.S_below (Kd.S_elderB (rs HO_5.out) gb984 (Nat.le_of_eq hg.symm)) hb); have n1_ := Aside0.mk (Kd.R_below (rz HO_10.out) hb); have n2_ := Aside0.mk (Kd.Q_below (by (with_reducible repeat (first | apply Kd.Q_alloc | apply Kd.Q_drewN | apply Kd.Q_drew)); exact HO_11.out) hb); have n3_ := Aside0.mk (blk_below (g := gb945) (o := .cells #[.slice A0_0 l0_0.length c0_0, .slice (some ad952) l0_1.length c0_1] 52 (0, 0)) kz hb); have n4_ := Aside0.mk (below_step bz hb); have n5_ := Aside0.mk (hbox); have n6_ := Aside0.mk ((by rw [hg]; exact (below_size bz) : w.heap.size ≤ gb984)); have n7_ := Aside0.mk ((by rw [hg]; exact (below_size bz) : w.heap.size ≤ gb984)); have n8_ := Aside0.mk ((by rw [hg]; exact Nat.ne_of_lt (blk_lt (g := gb945) (o := .cells #[.slice A0_0 l0_0.length c0_0, .slice (some ad952) l0_1.length c0_1] 52 (0, 0)) kz) : gb945 ≠ gb984)); have n9_ := Aside0.mk ((by rw [hg]; exact Nat.ne_of_gt (blk_lt (g := gb945) (o := .cells #[.slice A0_0 l0_0.length c0_0, .slice (some ad952) l0_1.length c0_1] 52 (0, 0)) kz) : gb984 ≠ gb945)); clear HO_5; clear HO_10; clear HO_11; clear BK945; clear HB; have HO_5 := n0_; have HO_10 := n1_; have HO_11 := n2_; have BK945 := n3_; have HB := n4_; have BK984 := n5_; have GW984 := n6_; have GE984 := n7_; have NB945_984 := n8_; have NB984_945 := n9_; clear n0_ n1_ n2_ n3_ n4_ n5_ n6_ n7_ n8_ n9_; clear hb hbox hg; have hnb69 := NB984_945.out; have hnc69 := NB945_984.out; have hcz70_0 : w68.cell? ⟨gb984, 0, none⟩ = some (.int .i64 0) := (blk_cell BK984.out 0).trans rfl; have hcz70_1 : w68.cell? ⟨gb984, 1, none⟩ = some (.slice none 0 0) := (blk_cell BK984.out 1).trans rfl; have hfz70_0 := blk_frozen BK984.out 0; have hfz70_1 := blk_frozen BK984.out 1))
                         go_loopg [14] k3 (fun kq v14 w' => ∃ (x14_4 : Int) (x985001_4 : List Int) (u985001 : Value), v14 = .int .i64 x14_4 ∧ Aside0 (spec_l4Loops.l3 kq l1 x5_1 (l0_0.length : Int) x7_1 x10_3 x14_4 l0_0 l0_1 x7_1 x985001_4 = some r) ∧ Aside0 (kq ≤ k3) ∧ Aside0 (Kd.S k86 86 w' w.heap.size (fun k_ => some k_ ≠ (u985001 : Value).ownBlock ∧ k_ ≠ gb984) u5 x5_1) ∧ Aside0 (Kd.R Kd.bool 4 w' w.heap.size (fun _ => True) (.slice (some ⟨go32, 0, none⟩) x10_3.length co32) x10_3) ∧ Aside0 (Kd.R (Kd.int .i64) 2 w' w.heap.size (fun _ => True) u985001 x985001_4) ∧ Aside0 (w'.heap[gb945]? = some (.cells #[(.slice A0_0 l0_0.length c0_0), (.slice (some ad952) l0_1.length c0_1)] 52 (0, 0))) ∧ Aside0 (w'.heap[gb984]? = some (.cells #[.int .i64 x7_1, u985001] 86 (0, 0))) ∧ Aside0 (Below w.heap.size w w'))
                         case atStart => exact ⟨(0), (([] : List Int)), (.slice none 0 0), sz_, H', ⟨Nat.le_refl _⟩, ⟨by (try simp only [hl10_3]); (with_reducible repeat (first | apply Kd.S_alloc | apply Kd.S_drewN | apply Kd.S_drew)); exact Kd.S_mono (Kd.S_far (p := ⟨gb984, 1, none⟩) (Kd.S_far (p := ⟨gb984, 0, none⟩) (Kd.S_mono HO_5.out (fun k_ hk => (⟨hk, hk.2⟩ : _ ∧ k_ ≠ gb984))) (fun _ hk => hk.2) (.int .i64 x7_1)) (fun _ hk => hk.2) (.slice none 0 0)) (fun _ hk => ⟨(by simp [Value.ownBlock]), hk.1.2⟩)⟩, ⟨by (try simp only [hl10_3]); (with_reducible repeat (first | apply Kd.R_alloc | apply Kd.R_drewN | apply Kd.R_drew)); exact Kd.R_mono (Kd.R_far (p := ⟨gb984, 1, none⟩) (Kd.R_far (p := ⟨gb984, 0, none⟩) (Kd.R_types HO_10.out BK984.out (by decide)) (fun _ hk => hk.2) (.int .i64 x7_1)) (fun _ hk => hk.2) (.slice none 0 0)) (fun _ hk => trivial)⟩, ⟨by (try simp only [hl10_3]); first | exact Kd.R_nil _ _ _ _ _ | exact Kd.N_nil _ _ _ _ _ | exact Kd.V_nil _ _ _ _ _ | exact Kd.Q_nil _ _ _ _ _ | exact Kd.S_nil _ _ _ _ _⟩, ⟨by (try simp only [hl10_3]); (with_reducible repeat (first | refine blk_drewN ?_ _ | refine blk_drew ?_ | refine blk_alloc ?_ _)); refine blk_far ?_ NB945_984.out _; (with_reducible repeat (first | refine blk_drewN ?_ _ | refine blk_drew ?_ | refine blk_alloc ?_ _)); refine blk_far ?_ NB945_984.out _; (with_reducible repeat (first | refine blk_drewN ?_ _ | refine blk_drew ?_ | refine blk_alloc ?_ _)); exact BK945.out⟩, ⟨by (try simp only [hl10_3]); (with_reducible repeat (first | refine blk_drewN ?_ _ | refine blk_drew ?_ | refine blk_alloc ?_ _)); refine blk_put (cs := #[.int .i64 x7_1, .slice none 0 0]) ?_ 1 _ rfl; (with_reducible repeat (first | refine blk_drewN ?_ _ | refine blk_drew ?_ | refine blk_alloc ?_ _)); refine blk_put (cs := #[.int .i64 0, .slice none 0 0]) ?_ 0 _ rfl; (with_reducible repeat (first | refine blk_drewN ?_ _ | refine blk_drew ?_ | refine blk_alloc ?_ _)); exact BK984.out⟩, ⟨ bz⟩⟩
                         case round =>
                          clear H'
                          try clear c1
                          try clear q1
                          try clear c2
                          try clear p2
                          try clear c3
                          try clear p3
                          try clear q3
                          try clear hx3
                          try clear hf3
                          try clear c4
                          try clear q4
                          try clear c5
                          try clear p5
                          try clear q5
                          try clear hx5
                          try clear hf5
                          try clear c6
                          try clear q6
                          try clear c9
                          try clear p9
                          try clear q9
                          try clear hx9
                          try clear qi9
                          try clear c11
                          try clear c11b0
                          try clear c12
                          try clear c12b0
                          try clear c13
                          try clear c13b0
                          try clear c14
                          try clear c14b0
                          try clear c15
                          try clear c15b0
                          try clear c16
                          try clear c16b0
                          try clear q17
                          try clear c18
                          try clear c19
                          try clear c26
                          try clear c26b0
                          try clear c26b1
                          try clear c26b2
                          try clear c29
                          try clear c29b0
                          try clear c29b1
                          try clear c30
                          try clear c30b0
                          try clear c30b1
                          try clear c31
                          try clear c31b0
                          try clear p32
                          try clear q32
                          try clear hx32
                          try clear hf32
                          try clear c39
                          try clear c39b0
                          try clear c39b1
                          try clear c40
                          try clear c40b0
                          try clear c40b1
                          try clear c41
                          try clear c41b0
                          try clear c41b1
                          try clear c42
                          try clear c42b0
                          try clear c43
                          try clear c43b0
                          try clear q44
                          try clear c45
                          try clear c47
                          try clear q47
                          try clear c48
                          try clear c48b0
                          try clear c48b1
                          try clear c49
                          try clear c49b0
                          try clear q50
                          try clear c51
                          try clear p52
                          try clear q52
                          try clear hx52
                          try clear hf52
                          try clear c53
                          try clear c54
                          try clear c54b0
                          try clear c55
                          try clear c57
                          try clear q57
                          try clear c66
                          try clear q66
                          try clear c69
                          try clear hcz20_0
                          try clear hcz20_1
                          try clear hcz22_0
                          try clear hcz22_1
                          try clear hcz24_0
                          try clear hcz24_1
                          try clear hcz27_0
                          try clear hcz27_1
                          try clear hcz33_0
                          try clear hcz33_1
                          try clear hcz6_0
                          try clear hcz6_1
                          try clear hcz70_0
                          try clear hcz70_1
                          try clear hfz20_0
                          try clear hfz20_1
                          try clear hfz22_0
                          try clear hfz22_1
                          try clear hfz24_0
                          try clear hfz24_1
                          try clear hfz27_0
                          try clear hfz27_1
                          try clear hfz33_0
                          try clear hfz33_1
                          try clear hfz6_0
                          try clear hfz6_1
                          try clear hfz70_0
                          try clear hfz70_1
                          try clear hx32_0
                          try clear hx52_0
                          try clear hx952_0
                          try clear hx953_0
                          try clear hx954_0
                          try clear hx955_0
                          try clear hx956_0
                          try clear hx957_0
                          try clear hx958_0
                          try clear hx966_0
                          try clear hx970_0
                          try clear hx971_0
                          try clear hx972_0
                          try clear hx980_0
                          try clear p2
                          try clear p32
                          try clear p52
                          try clear p952
                          try clear p953
                          try clear p954
                          try clear p955
                          try clear p956
                          try clear p957
                          try clear p958
                          try clear p966
                          try clear p970
                          try clear p971
                          try clear p972
                          try clear p980
                          try clear q17
                          try clear q32
                          try clear q47
                          try clear q52
                          try clear q57
                          try clear q66
                          try clear q952
                          try clear q953
                          try clear q954
                          try clear q955
                          try clear q956
                          try clear q957
                          try clear q958
                          try clear q966
                          try clear q970
                          try clear q971
                          try clear q972
                          try clear q980
                          obtain ⟨x14_4, x985001_4, u985001, rfl, HA, HK4, HO_5, HO_10, HO_985001, BK945, BK984, HB⟩ := hrel
                          cases gk with
                          | zero => exact absurd HA.out (by simp [spec_l4Loops.l3])
                          | succ k4 =>
                           have H := HA.out
                           clear HA
                           simp only [spec_l4Loops.l3] at H
                           by_cases c71 : x14_4 < (l0_0.length : Int)
                           · rw [if_pos c71] at H
                             have c71b0 : decide (x14_4 < (l0_0.length : Int)) = true := decide_eq_true c71
                             clear c71
                             by_cases c72 : 0 ≤ x14_4
                             · rw [if_pos c72] at H
                               have c72b0 : decide (0 ≤ x14_4) = true := decide_eq_true c72
                               clear c72
                               by_cases c73 : x14_4 < (x10_3.length : Int)
                               · rw [if_pos c73] at H
                                 have c73b0 : decide (x14_4 < (x10_3.length : Int)) = true := decide_eq_true c73
                                 clear c73
                                 obtain ⟨bq74, hbq74⟩ : ∃ b_ : Bool, b_ = (rdOf false x10_3 x14_4) := ⟨_, rfl⟩
                                 replace H : (if bq74 = true then (if x985001_4.length < 17592186044416 then (spec_l4Loops.l3 k4 l1 x5_1 (l0_0.length : Int) x7_1 x10_3 (wrap64 (x14_4 + 1)) l0_0 l0_1 x7_1 (x985001_4 ++ [x14_4])) else (none)) else (spec_l4Loops.l3 k4 l1 x5_1 (l0_0.length : Int) x7_1 x10_3 (wrap64 (x14_4 + 1)) l0_0 l0_1 x7_1 x985001_4)) = some r := by rw [← hbq74] at H; exact H
                                 have Nbq74 := Aside0.mk hbq74
                                 clear hbq74
                                 by_cases c75 : bq74 = true
                                 · subst c75
                                   have H1 : (if x985001_4.length < 17592186044416 then (spec_l4Loops.l3 k4 l1 x5_1 (l0_0.length : Int) x7_1 x10_3 (wrap64 (x14_4 + 1)) l0_0 l0_1 x7_1 (x985001_4 ++ [x14_4])) else (none)) = some r := by rw [if_pos rfl] at H; exact H
                                   clear H
                                   have H := H1
                                   clear H1
                                   by_cases c76 : x985001_4.length < 17592186044416
                                   · rw [if_pos c76] at H
                                     have LMc76 := Aside0.mk c76
                                     clear c76
                                     obtain ⟨y986, hy986⟩ : ∃ y_ : List Int, y_ = (x985001_4 ++ [x14_4]) := ⟨_, rfl⟩
                                     replace H : (spec_l4Loops.l3 k4 l1 x5_1 (l0_0.length : Int) x7_1 x10_3 (wrap64 (x14_4 + 1)) l0_0 l0_1 x7_1 y986) = some r := by first | (rw [hy986]; with_reducible exact H) | (have H2_ := (Option.bind_some _ _).symm.trans H; rw [hy986]; with_reducible exact H2_) | (have H2_ := (Option.bind_some _ _).symm.trans H; with_reducible exact H2_) | with_reducible exact H | (rw [hy986]; exact H) | exact H
                                     have Ny986 := Aside0.mk hy986
                                     clear hy986
                                     have H' := Aside0.mk H
                                     clear H
                                     have p985 : 0 ≤ (x14_4 : Int) := of_decide_eq_true az
                                     have q985 : x14_4 < (x10_3.length : Int) := of_decide_eq_true az
                                     obtain ⟨ad985, e985, hx985_0⟩ := Kd.at_bool (Kd.R_reads' HO_10.out).2.2 x14_4 p985 q985
                                     (try rw [← Nbq74.out] at hx985_0)
                                     obtain rfl : (⟨go32, 0, none⟩ : Addr) = ad985 := (by injection e985)
                                     (first | simp only [add_plain] at hx985_0 | simp only [add_at] at hx985_0 | simp only [Addr.add, Nat.zero_add] at hx985_0 | skip)
                                     replace p985 := eq_true p985
                                     replace q985 := eq_true q985
                                     have hnb77 := NB984_945.out
                                     have hnc77 := NB945_984.out
                                     have hcz78_0 : wr.cell? ⟨gb984, 0, none⟩ = some (.int .i64 x7_1) := (blk_cell BK984.out 0).trans rfl
                                     have hcz78_1 : wr.cell? ⟨gb984, 1, none⟩ = some (u985001) := (blk_cell BK984.out 1).trans rfl
                                     have hfz78_0 := blk_frozen BK984.out 0
                                     have hfz78_1 := blk_frozen BK984.out 1
                                     go_wp2_with (first | ((with_reducible refine gate_builtin (b := .append) (xs := #[.tmp 114, .tmp 116]) rfl ?_); at_builtin; refine Kd.R_append (Kd.int .i64) (w0 := w) w.heap.size rfl (.tmp 114) (.tmp 116) 22 2 (.int .i64 0) 8 rfl Try.underlying22 info2 rfl (by decide) (by omega) u985001 x985001_4 x14_4 [.int .i64 x14_4] (fun _ => True) (fun _ => False) rfl rfl ?aP (fun _ hk => hk.elim) ?aF ?aO ?aB ?aS ?aL ?_; (case aP => exact rfl); (case aB => exact bz); (case aF => exact (fun _ _ => trivial)); (case aO => exact (rz HO_985001.out)); (case aS => exact (below_size bz)); (case aL => have := LMc76.out; omega); intro v987 w79 ho hb hg hat; rw [← Ny986.out] at ho; have n0_ := Aside0.mk (Kd.S_after (ok := (fun k_ => k_ ≠ gb984)) (by (with_reducible repeat (first | apply Kd.S_alloc | apply Kd.S_drewN | apply Kd.S_drew)); exact Kd.S_mono HO_5.out (fun _ hk => ⟨hk.2, hk.1⟩)) hg hat); have n1_ := Aside0.mk (Kd.R_over' (rz HO_10.out) (Kd.R_typed (rz HO_985001.out)) (by decide) hg); have n2_ := Aside0.mk (blk_grown (g := gb945) (o := .cells #[.slice A0_0 l0_0.length c0_0, .slice (some ad952) l0_1.length c0_1] 52 (0, 0)) kz hg (Kd.R_ne HO_985001.out BK945.out (by decide))); have n3_ := Aside0.mk (blk_grown (g := gb984) (o := .cells #[.int .i64 x7_1, u985001] 86 (0, 0)) kz hg (Kd.R_ne HO_985001.out BK984.out (by decide))); have n4_ := Aside0.mk (hb); have n5_ := Aside0.mk (ho); clear HO_5; clear HO_10; clear BK945; clear BK984; clear HB; clear HO_985001; have HO_5 := n0_; have HO_10 := n1_; have BK945 := n2_; have BK984 := n3_; have HB := n4_; have HO988 := n5_; clear n0_ n1_ n2_ n3_ n4_ n5_; clear ho hb hg hat; obtain ⟨Ao80, co80, eo80⟩ := Kd.R_slice HO988.out; subst eo80; have hcz81_0 : w79.cell? ⟨gb984, 0, none⟩ = some (.int .i64 x7_1) := (blk_cell BK984.out 0).trans rfl; have hcz81_1 : w79.cell? ⟨gb984, 1, none⟩ = some (u985001) := (blk_cell BK984.out 1).trans rfl; have hfz81_0 := blk_frozen BK984.out 0; have hfz81_1 := blk_frozen BK984.out 1))
                                     go_roundg k4
                                     case measure => have := HK1.out; have := HK2.out; have := HK3.out; have := HK4.out; omega
                                     case rel => exact ⟨(wrap64 (x14_4 + 1)), (y986), (.slice Ao80 y986.length co80), sz_, H', ⟨by have := HK1.out; have := HK2.out; have := HK3.out; have := HK4.out; omega⟩, ⟨by (try simp only [hl10_3]); (with_reducible repeat (first | apply Kd.S_alloc | apply Kd.S_drewN | apply Kd.S_drew)); exact Kd.S_mono (Kd.S_far (p := ⟨gb984, 1, none⟩) (Kd.S_mono HO_5.out (fun k_ hk => (⟨hk, hk.1⟩ : _ ∧ k_ ≠ gb984))) (fun _ hk => hk.2) (.slice Ao80 y986.length co80)) (fun _ hk => ⟨hk.1.2, hk.1.1⟩)⟩, ⟨by (try simp only [hl10_3]); (with_reducible repeat (first | apply Kd.R_alloc | apply Kd.R_drewN | apply Kd.R_drew)); exact Kd.R_mono (Kd.R_far (p := ⟨gb984, 1, none⟩) (Kd.R_types HO_10.out BK984.out (by decide)) (fun _ hk => hk.2) (.slice Ao80 y986.length co80)) (fun _ hk => trivial)⟩, ⟨by (try simp only [hl10_3]); (with_reducible repeat (first | apply Kd.R_alloc | apply Kd.R_drewN | apply Kd.R_drew)); exact Kd.R_mono (Kd.R_far (p := ⟨gb984, 1, none⟩) (Kd.R_types HO988.out BK984.out (by decide)) (fun _ hk => hk.2) (.slice Ao80 y986.length co80)) (fun _ hk => trivial)⟩, ⟨by (try simp only [hl10_3]); (with_reducible repeat (first | refine blk_drewN ?_ _ | refine blk_drew ?_ | refine blk_alloc ?_ _)); refine blk_far ?_ NB945_984.out _; (with_reducible repeat (first | refine blk_drewN ?_ _ | refine blk_drew ?_ | refine blk_alloc ?_ _)); exact BK945.out⟩, ⟨by (try simp only [hl10_3]); (with_reducible repeat (first | refine blk_drewN ?_ _ | refine blk_drew ?_ | refine blk_alloc ?_ _)); refine blk_put (cs := #[.int .i64 x7_1, u985001]) ?_ 1 _ rfl; (with_reducible repeat (first | refine blk_drewN ?_ _ | refine blk_drew ?_ | refine blk_alloc ?_ _)); exact BK984.out⟩, ⟨ bz⟩⟩
                                   · rw [if_neg c76] at H
                                     exact absurd H (by simp)
                                 · replace c75 := Bool.eq_false_iff.mpr c75
                                   subst c75
                                   have H1 : (spec_l4Loops.l3 k4 l1 x5_1 (l0_0.length : Int) x7_1 x10_3 (wrap64 (x14_4 + 1)) l0_0 l0_1 x7_1 x985001_4) = some r := by rw [if_neg (show ¬ (false = true) by decide)] at H; exact H
                                   clear H
                                   have H := H1
                                   clear H1
                                   have H' := Aside0.mk H
                                   clear H
                                   have p985 : 0 ≤ (x14_4 : Int) := of_decide_eq_true az
                                   have q985 : x14_4 < (x10_3.length : Int) := of_decide_eq_true az
                                   obtain ⟨ad985, e985, hx985_0⟩ := Kd.at_bool (Kd.R_reads' HO_10.out).2.2 x14_4 p985 q985
                                   (try rw [← Nbq74.out] at hx985_0)
                                   obtain rfl : (⟨go32, 0, none⟩ : Addr) = ad985 := (by injection e985)
                                   (first | simp only [add_plain] at hx985_0 | simp only [add_at] at hx985_0 | simp only [Addr.add, Nat.zero_add] at hx985_0 | skip)
                                   replace p985 := eq_true p985
                                   replace q985 := eq_true q985
                                   go_wp2
                                   go_roundg k4
                                   case measure => have := HK1.out; have := HK2.out; have := HK3.out; have := HK4.out; omega
                                   case rel => exact ⟨(wrap64 (x14_4 + 1)), (x985001_4), (u985001), sz_, H', ⟨by have := HK1.out; have := HK2.out; have := HK3.out; have := HK4.out; omega⟩, ⟨by (try simp only [hl10_3]); (with_reducible repeat (first | apply Kd.S_alloc | apply Kd.S_drewN | apply Kd.S_drew)); exact HO_5.out⟩, ⟨by (try simp only [hl10_3]); (with_reducible repeat (first | apply Kd.R_alloc | apply Kd.R_drewN | apply Kd.R_drew)); exact HO_10.out⟩, ⟨by (try simp only [hl10_3]); (with_reducible repeat (first | apply Kd.R_alloc | apply Kd.R_drewN | apply Kd.R_drew)); exact HO_985001.out⟩, ⟨by (try simp only [hl10_3]); (with_reducible repeat (first | refine blk_drewN ?_ _ | refine blk_drew ?_ | refine blk_alloc ?_ _)); exact BK945.out⟩, ⟨by (try simp only [hl10_3]); (with_reducible repeat (first | refine blk_drewN ?_ _ | refine blk_drew ?_ | refine blk_alloc ?_ _)); exact BK984.out⟩, ⟨ bz⟩⟩
                               · rw [if_neg c73] at H
                                 exact absurd H (by simp)
                             · rw [if_neg c72] at H
                               exact absurd H (by simp)
                           · rw [if_neg c71] at H
                             have c71b0 : decide (x14_4 < (l0_0.length : Int)) = false := decide_eq_false c71
                             clear c71
                             by_cases c82 : x5_1.length < 4398046511104
                             · rw [if_pos c82] at H
                               have LMc82 := Aside0.mk c82
                               clear c82
                               obtain ⟨y989, hy989⟩ : ∃ y_ : List (S86), y_ = (x5_1 ++ [(⟨x7_1, x985001_4⟩ : S86)]) := ⟨_, rfl⟩
                               replace H : (spec_l4Loops.l0 k4 l1 y989 (l0_0.length : Int) (wrap64 (x7_1 + 1)) l0_0 l0_1) = some r := by first | (rw [hy989]; with_reducible exact H) | (have H2_ := (Option.bind_some _ _).symm.trans H; rw [hy989]; with_reducible exact H2_) | (have H2_ := (Option.bind_some _ _).symm.trans H; with_reducible exact H2_) | with_reducible exact H | (rw [hy989]; exact H) | exact H
                               have Ny989 := Aside0.mk hy989
                               clear hy989
                               have H' := Aside0.mk H
                               clear H
                               have hnb83 := NB984_945.out
                               have hnc83 := NB945_984.out
                               have hcz84_0 : wr.cell? ⟨gb984, 0, none⟩ = some (.int .i64 x7_1) := (blk_cell BK984.out 0).trans rfl
                               have hcz84_1 : wr.cell? ⟨gb984, 1, none⟩ = some (u985001) := (blk_cell BK984.out 1).trans rfl
                               have hfz84_0 := blk_frozen BK984.out 0
                               have hfz84_1 := blk_frozen BK984.out 1
                               obtain ⟨Ao86, co86, eo86⟩ := Kd.R_slice HO_985001.out
                               subst eo86
                               go_wp2_with (first | ((with_reducible refine gate_builtin (b := .append) (xs := #[.tmp 119, .tmp 121]) rfl ?_); at_builtin; refine Kd.S_append k86 (w0 := w) w.heap.size rfl (.tmp 119) (.tmp 121) 45 86 (.agg #[(.int .i64 0), (.slice none 0 0)]) 32 rfl Try.underlying45 info86 rfl (by decide) (by omega) u5 x5_1 (⟨x7_1, x985001_4⟩ : S86) [.int .i64 x7_1, .slice Ao86 x985001_4.length co86] (fun k_ => k_ ≠ gb984) (fun k_ => some k_ = (.slice Ao86 x985001_4.length co86 : Value).ownBlock) rfl rfl ?aP (fun k_ hk_ => ((Kd.R_mono (ok' := fun k_ => ((fun k_ => k_ ≠ gb984)) k_ ∧ some k_ ≠ (u5 : Value).ownBlock) (Kd.R_types (Kd.R_apart' (HO_985001.out) (Kd.S_typed HO_5.out) (by decide)) BK984.out (by decide)) (fun k_ hk => ⟨hk.2, hk.1.2⟩))).1 k_ hk_.symm) ?aF ?aO ?aB ?aS ?aL ?_; (case aP => exact k86_mkM _ _ _ (⟨x7_1, x985001_4⟩ : S86) (Kd.R_mono (Kd.R_tight rfl (Kd.R_mono (ok' := fun k_ => ((fun k_ => k_ ≠ gb984)) k_ ∧ some k_ ≠ (u5 : Value).ownBlock) (Kd.R_types (Kd.R_apart' (HO_985001.out) (Kd.S_typed HO_5.out) (by decide)) BK984.out (by decide)) (fun k_ hk => ⟨hk.2, hk.1.2⟩))) (fun _ h_ => h_))); (case aB => exact bz); (case aF => exact (fun k_ hk => Kd.freshB (g := gb984) (o := .cells #[.int .i64 x7_1, .slice Ao86 x985001_4.length co86] 86 (0, 0)) kz k_ hk)); (case aO => exact (by (with_reducible repeat (first | apply Kd.S_alloc | apply Kd.S_drewN | apply Kd.S_drew)); exact Kd.S_mono HO_5.out (fun k_ hk => ⟨hk.2, fun e_ => hk.1 e_⟩))); (case aS => exact (below_size bz)); (case aL => have := LMc82.out; omega); intro v990 w85 ho hb hg hat; rw [← Ny989.out] at ho; have n0_ := Aside0.mk (Kd.R_over' (rz HO_10.out) (Kd.S_typed (rs HO_5.out)) (by decide) hg); have n1_ := Aside0.mk (blk_grown (g := gb945) (o := .cells #[.slice A0_0 l0_0.length c0_0, .slice (some ad952) l0_1.length c0_1] 52 (0, 0)) kz hg (Kd.S_ne HO_5.out BK945.out (by decide))); have n2_ := Aside0.mk (blk_grown (g := gb984) (o := .cells #[.int .i64 x7_1, .slice Ao86 x985001_4.length co86] 86 (0, 0)) kz hg (Kd.S_away HO_5.out (fun _ hk => hk.2))); have n3_ := Aside0.mk (hb); have n4_ := Aside0.mk (ho); clear HO_10; clear BK945; clear BK984; clear HB; clear HO_5; clear HO_985001; have HO_10 := n0_; have BK945 := n1_; have BK984 := n2_; have HB := n3_; have HO991 := n4_; clear n0_ n1_ n2_ n3_ n4_; clear ho hb hg hat))
                               (try simp only [← hl10_3])
                               go_roundg k4
                               case measure => have := HK1.out; have := HK2.out; have := HK3.out; have := HK4.out; omega
                               case rel => exact ⟨(y989), (wrap64 (x7_1 + 1)), sz_, H', ⟨by have := HK1.out; have := HK2.out; have := HK3.out; have := HK4.out; omega⟩, ⟨by (try simp only [hl10_3]); (with_reducible repeat (first | apply Kd.S_alloc | apply Kd.S_drewN | apply Kd.S_drew)); exact Kd.S_mono HO991.out (fun _ hk => trivial)⟩, ⟨by (try simp only [hl10_3]); (with_reducible repeat (first | refine blk_drewN ?_ _ | refine blk_drew ?_ | refine blk_alloc ?_ _)); exact BK945.out⟩, ⟨ bz⟩⟩
                             · rw [if_neg c82] at H
                               exact absurd H (by simp)
                   · rw [if_neg c31] at H
                     exact absurd H (by simp)
                 · rw [if_neg c30] at H
                   exact absurd H (by simp)
               · rw [if_neg c29] at H
                 exact absurd H (by simp)
         · rw [if_neg c11] at H
           exact absurd H (by simp)
       · rw [if_neg c10] at H
         exact absurd H (by simp)
   · rw [if_neg c7] at H
     have c7b0 : decide (x7_1 < (l0_0.length : Int)) = false := decide_eq_false c7
     clear c7
     obtain rfl := Option.some.inj H
     go_wp2
     go_ret
     exact ⟨_, by first | rfl | (simp [errW_none, errW_some] <;> rfl) | (simp [*, errW_none, errW_some] <;> rfl), by (with_reducible repeat (first | apply Kd.S_alloc | apply Kd.S_drewN | apply Kd.S_drew)); exact HO_5.out, bz⟩

set_option linter.unusedVariables false
set_option linter.unusedSimpArgs false

def spec_Loops.f (k : Nat) (a0_0 : ByteArray) (a0_1 : Int) (l0_2 : List Int) (a0_3 : Int) (l0_4 : List (S62)) : Option ((List (S86))) := if (l0_4.length : Int) = 0 then (some (([] : List (S86)))) else ((spec_l4Build.f k a0_0 a0_1 l0_2 a0_3 l0_4).bind fun bt996 => ((spec_l4Doms.f k bt996.1 bt996.2).bind fun t1003 => ((spec_l4Loops.f k bt996.1 bt996.2 t1003).bind fun t1006 => (some t1006))))
set_option maxHeartbeats 8000000 in
set_option maxRecDepth 100000 in
theorem spec_Loops.calls (k : Nat) (a0_0 : ByteArray) (a0_1 : Int) (A0_2 : Option Addr) (c0_2 : Nat) (l0_2 : List Int) (a0_3 : Int) (A0_4 : Option Addr) (c0_4 : Nat) (l0_4 : List (S62)) (r : List (S86)) (w : World) (hr0_2 : Kd.C (Kd.int .i64) w A0_2 l0_2.length l0_2) (hc0_2 : l0_2.length ≤ c0_2) (hr0_4 : Kd.C k62 w A0_4 l0_4.length l0_4) (hc0_4 : l0_4.length ≤ c0_4) (h : spec_Loops.f k a0_0 a0_1 l0_2 a0_3 l0_4 = some r) :
 Calls Try.prog 36 #[.agg #[.string a0_0, .int .i64 a0_1, .slice A0_2 l0_2.length c0_2, .int .i64 a0_3, .slice A0_4 l0_4.length c0_4]] w fun e w' => ∃ v0_ : Value, e = .returned (v0_) ∧ Kd.S k86 86 w' w.heap.size (fun _ => True) v0_ r ∧ Below w.heap.size w w' := by
 have hu30 := Try.underlying30
 have hu52 := Try.underlying52
 have HR0_2 := Aside0.mk hr0_2
 have HC0_2 := Aside0.mk hc0_2
 clear hr0_2 hc0_2
 have HR0_4 := Aside0.mk hr0_4
 have HC0_4 := Aside0.mk hc0_4
 clear hr0_4 hc0_4
 have HB := Aside0.mk (Below.refl w.heap.size w)
 have H : (if (l0_4.length : Int) = 0 then (some (([] : List (S86)))) else ((spec_l4Build.f k a0_0 a0_1 l0_2 a0_3 l0_4).bind fun bt996 => ((spec_l4Doms.f k bt996.1 bt996.2).bind fun t1003 => ((spec_l4Loops.f k bt996.1 bt996.2 t1003).bind fun t1006 => (some t1006))))) = some r := h
 clear h
 by_cases c2 : (l0_4.length : Int) = 0
 · rw [if_pos c2] at H
   have c2b0 : ((l0_4.length : Int) == 0) = true := beq_iff_eq.mpr c2
   have c2b1 : ((l0_4.length : Int) != 0) = false := bne_eq_false_iff_eq.mpr c2
   clear c2
   obtain ⟨y993, hy993⟩ : ∃ y_ : List (S86), y_ = (([] : List (S86))) := ⟨_, rfl⟩
   replace H : (some y993) = some r := by first | (rw [hy993]; with_reducible exact H) | (have H2_ := (Option.bind_some _ _).symm.trans H; rw [hy993]; with_reducible exact H2_) | (have H2_ := (Option.bind_some _ _).symm.trans H; with_reducible exact H2_) | with_reducible exact H | (rw [hy993]; exact H) | exact H
   have Ny993 := Aside0.mk hy993
   clear hy993
   obtain rfl := Option.some.inj H
   go_enter Try.func36, Try.ntmps36
   go_wp2_with (first | ((with_reducible refine gate_dst (N := 1) rfl ?_); refine box_event ?hg (N := 1) ?hd (cs := #[.string a0_0, .int .i64 a0_1, .slice A0_2 l0_2.length c0_2, .int .i64 a0_3, .slice A0_4 l0_4.length c0_4]) (t := 30) ?hr ?_; (case hd => rfl); (case hg => rfl); (case hr => first | (go_simp; done) | (go_simp; rfl)); intro gb992 hg w3 hbox hb; have n0_ := Aside0.mk (below_step bz hb); have n1_ := Aside0.mk (hbox); have n2_ := Aside0.mk ((by rw [hg]; exact (below_size bz) : w.heap.size ≤ gb992)); have n3_ := Aside0.mk ((by rw [hg]; exact (below_size bz) : w.heap.size ≤ gb992)); clear HB; have HB := n0_; have BK992 := n1_; have GW992 := n2_; have GE992 := n3_; clear n0_ n1_ n2_ n3_; clear hb hbox hg; have hcz4_0 : w3.cell? ⟨gb992, 0, none⟩ = some (.string a0_0) := (blk_cell BK992.out 0).trans rfl; have hcz4_1 : w3.cell? ⟨gb992, 1, none⟩ = some (.int .i64 a0_1) := (blk_cell BK992.out 1).trans rfl; have hcz4_2 : w3.cell? ⟨gb992, 2, none⟩ = some (.slice A0_2 l0_2.length c0_2) := (blk_cell BK992.out 2).trans rfl; have hcz4_3 : w3.cell? ⟨gb992, 3, none⟩ = some (.int .i64 a0_3) := (blk_cell BK992.out 3).trans rfl; have hcz4_4 : w3.cell? ⟨gb992, 4, none⟩ = some (.slice A0_4 l0_4.length c0_4) := (blk_cell BK992.out 4).trans rfl; have hfz4_0 := blk_frozen BK992.out 0; have hfz4_1 := blk_frozen BK992.out 1; have hfz4_2 := blk_frozen BK992.out 2; have hfz4_3 := blk_frozen BK992.out 3; have hfz4_4 := blk_frozen BK992.out 4) | ((with_reducible refine gate_dst (N := 8) rfl ?_); refine Kd.S_lit k86 _ 86 ?hg (N := 8) ?hd (xs := ([] : List (S86))) (inner := []) (ok := fun _ => True) (okp := fun _ => True) ?hr ?hp (fun _ hk => hk) trivial (Below.refl _ _) (Nat.le_refl _) (by simp) ?_; (case hd => rfl); (case hg => rfl); (case hr => first | (go_simp; done) | (go_simp; rfl)); (case hp => exact (Reps.none _ _)); intro v994 w5 ho6 hb hg_ hnew_; clear hg_ hnew_; (first | rw [← Ny993.out] at ho6 | (simp only [Int.reduceToNat] at ho6; rw [← Ny993.out] at ho6)); have n0_ := Aside0.mk (Kd.S_lower ho6 (below_size bz)); have n1_ := Aside0.mk (blk_below (g := gb992) (o := .cells #[.string a0_0, .int .i64 a0_1, .slice A0_2 l0_2.length c0_2, .int .i64 a0_3, .slice A0_4 l0_4.length c0_4] 30 (0, 0)) kz hb); have n2_ := Aside0.mk (below_step bz hb); clear BK992; clear HB; have HO995 := n0_; have BK992 := n1_; have HB := n2_; clear n0_ n1_ n2_; clear hb ho6))
   go_ret
   exact ⟨_, by first | rfl | (simp [errW_none, errW_some] <;> rfl) | (simp [*, errW_none, errW_some] <;> rfl), by (with_reducible repeat (first | apply Kd.S_alloc | apply Kd.S_drewN | apply Kd.S_drew)); exact HO995.out, bz⟩
 · rw [if_neg c2] at H
   have c2b0 : ((l0_4.length : Int) == 0) = false := beq_eq_false_iff_ne.mpr c2
   have c2b1 : ((l0_4.length : Int) != 0) = true := bne_iff_ne.mpr c2
   have c2b2 : ¬ (l0_4 = []) := fun h_ => c2 (by rw [h_]; rfl)
   replace H := Option.bind_eq_some_iff.mp H
   obtain ⟨⟨t996, t999⟩, A70, H⟩ := H
   replace H : ((spec_l4Doms.f k t996 t999).bind fun t1003 => ((spec_l4Loops.f k t996 t999 t1003).bind fun t1006 => (some t1006))) = some r := H
   have A7 := Aside0.mk A70
   clear A70
   replace H := Option.bind_eq_some_iff.mp H
   obtain ⟨t1003, A80, H⟩ := H
   replace H : ((spec_l4Loops.f k t996 t999 t1003).bind fun t1006 => (some t1006)) = some r := H
   have A8 := Aside0.mk A80
   clear A80
   replace H := Option.bind_eq_some_iff.mp H
   obtain ⟨t1006, A90, H⟩ := H
   replace H : (some t1006) = some r := H
   have A9 := Aside0.mk A90
   clear A90
   obtain rfl := Option.some.inj H
   go_enter Try.func36, Try.ntmps36
   try go_wp2_with (first | ((with_reducible refine gate_dst (N := 1) rfl ?_); refine box_event ?hg (N := 1) ?hd (cs := #[.string a0_0, .int .i64 a0_1, .slice A0_2 l0_2.length c0_2, .int .i64 a0_3, .slice A0_4 l0_4.length c0_4]) (t := 30) ?hr ?_; (case hd => rfl); (case hg => rfl); (case hr => first | (go_simp; done) | (go_simp; rfl)); intro gb992 hg w10 hbox hb; have n0_ := Aside0.mk (below_step bz hb); have n1_ := Aside0.mk (hbox); have n2_ := Aside0.mk ((by rw [hg]; exact (below_size bz) : w.heap.size ≤ gb992)); have n3_ := Aside0.mk ((by rw [hg]; exact (below_size bz) : w.heap.size ≤ gb992)); clear HB; have HB := n0_; have BK992 := n1_; have GW992 := n2_; have GE992 := n3_; clear n0_ n1_ n2_ n3_; clear hb hbox hg; have hcz11_0 : w10.cell? ⟨gb992, 0, none⟩ = some (.string a0_0) := (blk_cell BK992.out 0).trans rfl; have hcz11_1 : w10.cell? ⟨gb992, 1, none⟩ = some (.int .i64 a0_1) := (blk_cell BK992.out 1).trans rfl; have hcz11_2 : w10.cell? ⟨gb992, 2, none⟩ = some (.slice A0_2 l0_2.length c0_2) := (blk_cell BK992.out 2).trans rfl; have hcz11_3 : w10.cell? ⟨gb992, 3, none⟩ = some (.int .i64 a0_3) := (blk_cell BK992.out 3).trans rfl; have hcz11_4 : w10.cell? ⟨gb992, 4, none⟩ = some (.slice A0_4 l0_4.length c0_4) := (blk_cell BK992.out 4).trans rfl; have hfz11_0 := blk_frozen BK992.out 0; have hfz11_1 := blk_frozen BK992.out 1; have hfz11_2 := blk_frozen BK992.out 2; have hfz11_3 := blk_frozen BK992.out 3; have hfz11_4 := blk_frozen BK992.out 4) | ((with_reducible refine gate_callee (f := 45) rfl ?_); refine goesL_ (some 10) rfl rfl Try.func45 (by kernel_rfl) rfl #[.agg #[.string a0_0, .int .i64 a0_1, .slice A0_2 l0_2.length c0_2, .int .i64 a0_3, .slice A0_4 l0_4.length c0_4]] rfl lz ?_; (with_reducible refine (spec_l4Build.calls k a0_0 a0_1 _ _ l0_2 a0_3 _ _ l0_4 t996 t999 _ ?side1 ?side2 ?side3 ?side4 A7.out).mono ?_); (case side1 => exact cz HR0_2.out); (case side2 => exact HC0_2.out); (case side3 => exact cz HR0_4.out); (case side4 => exact HC0_4.out); rintro e w12 ⟨v997, v1000, rfl, ho0, ho1, hb⟩; refine ⟨_, rfl, ?_⟩; have n0_ := Aside0.mk (Kd.S_lower ho0 (below_size bz)); have n1_ := Aside0.mk (Kd.S_lower ho1 (below_size bz)); have n2_ := Aside0.mk (blk_below (g := gb992) (o := .cells #[.string a0_0, .int .i64 a0_1, .slice A0_2 l0_2.length c0_2, .int .i64 a0_3, .slice A0_4 l0_4.length c0_4] 30 (0, 0)) kz hb); have n3_ := Aside0.mk (below_step bz hb); clear BK992; clear HB; have HO998 := n0_; have HO1001 := n1_; have BK992 := n2_; have HB := n3_; clear n0_ n1_ n2_ n3_; (try clear hb); (try clear hb2); (try clear hk); (try clear hi); (try clear ho0); (try clear ho1)) | ((with_reducible refine gate_dst (N := 3) rfl ?_); refine box_event ?hg (N := 3) ?hd (cs := #[.slice none 0 0, .slice none 0 0]) (t := 52) ?hr ?_; (case hd => rfl); (case hg => rfl); (case hr => first | (go_simp; done) | (go_simp; rfl)); intro gb1002 hg w13 hbox hb; have n0_ := Aside0.mk (Kd.S_below (rs HO998.out) hb); have n1_ := Aside0.mk (Kd.S_below (rs HO1001.out) hb); have n2_ := Aside0.mk (blk_below (g := gb992) (o := .cells #[.string a0_0, .int .i64 a0_1, .slice A0_2 l0_2.length c0_2, .int .i64 a0_3, .slice A0_4 l0_4.length c0_4] 30 (0, 0)) kz hb); have n3_ := Aside0.mk (below_step bz hb); have n4_ := Aside0.mk (hbox); have n5_ := Aside0.mk ((by rw [hg]; exact (below_size bz) : w.heap.size ≤ gb1002)); have n6_ := Aside0.mk ((by rw [hg]; exact (below_size bz) : w.heap.size ≤ gb1002)); have n7_ := Aside0.mk ((by rw [hg]; exact Nat.ne_of_lt (blk_lt (g := gb992) (o := .cells #[.string a0_0, .int .i64 a0_1, .slice A0_2 l0_2.length c0_2, .int .i64 a0_3, .slice A0_4 l0_4.length c0_4] 30 (0, 0)) kz) : gb992 ≠ gb1002)); have n8_ := Aside0.mk ((by rw [hg]; exact Nat.ne_of_gt (blk_lt (g := gb992) (o := .cells #[.string a0_0, .int .i64 a0_1, .slice A0_2 l0_2.length c0_2, .int .i64 a0_3, .slice A0_4 l0_4.length c0_4] 30 (0, 0)) kz) : gb1002 ≠ gb992)); clear HO998; clear HO1001; clear BK992; clear HB; have HO998 := n0_; have HO1001 := n1_; have BK992 := n2_; have HB := n3_; have BK1002 := n4_; have GW1002 := n5_; have GE1002 := n6_; have NB992_1002 := n7_; have NB1002_992 := n8_; clear n0_ n1_ n2_ n3_ n4_ n5_ n6_ n7_ n8_; clear hb hbox hg; obtain ⟨Ao14, co14, eo14⟩ := Kd.S_slice HO998.out; subst eo14; have hnb15 := NB1002_992.out; have hnc15 := NB992_1002.out; have hcz16_0 : w13.cell? ⟨gb1002, 0, none⟩ = some (.slice none 0 0) := (blk_cell BK1002.out 0).trans rfl; have hcz16_1 : w13.cell? ⟨gb1002, 1, none⟩ = some (.slice none 0 0) := (blk_cell BK1002.out 1).trans rfl; have hfz16_0 := blk_frozen BK1002.out 0; have hfz16_1 := blk_frozen BK1002.out 1; obtain ⟨Ao17, co17, eo17⟩ := Kd.S_slice HO1001.out; subst eo17))
   have n0_ : Aside0 (Kd.S (Kd.slice 2 (Kd.int .i64)) 22 ((w13.setCell ⟨gb1002, 0, none⟩ (.slice Ao14 t996.length co14)).setCell ⟨gb1002, 1, none⟩ (.slice Ao17 t999.length co17)) w.heap.size (fun k_ => some k_ ≠ (.slice Ao17 t999.length co17 : Value).ownBlock) (.slice Ao14 t996.length co14) t996) := ⟨by (with_reducible repeat (first | apply Kd.S_alloc | apply Kd.S_drewN | apply Kd.S_drew)); exact Kd.S_mono (Kd.S_far (p := ⟨gb1002, 1, none⟩) (Kd.S_far (p := ⟨gb1002, 0, none⟩) (Kd.S_types HO998.out BK1002.out (by decide)) (fun _ hk => hk.2) (.slice Ao14 t996.length co14)) (fun _ hk => hk.2) (.slice Ao17 t999.length co17)) (fun _ hk => hk.1)⟩
   have n1_ : Aside0 (Kd.S (Kd.slice 2 (Kd.int .i64)) 22 ((w13.setCell ⟨gb1002, 0, none⟩ (.slice Ao14 t996.length co14)).setCell ⟨gb1002, 1, none⟩ (.slice Ao17 t999.length co17)) w.heap.size (fun k_ => some k_ ≠ (.slice Ao14 t996.length co14 : Value).ownBlock) (.slice Ao17 t999.length co17) t999) := ⟨by (with_reducible repeat (first | apply Kd.S_alloc | apply Kd.S_drewN | apply Kd.S_drew)); exact Kd.S_mono (Kd.S_far (p := ⟨gb1002, 1, none⟩) (Kd.S_far (p := ⟨gb1002, 0, none⟩) (Kd.S_types HO1001.out BK1002.out (by decide)) (fun _ hk => hk.2) (.slice Ao14 t996.length co14)) (fun _ hk => hk.2) (.slice Ao17 t999.length co17)) (fun _ hk => hk.1)⟩
   have n2_ : Aside0 (((w13.setCell ⟨gb1002, 0, none⟩ (.slice Ao14 t996.length co14)).setCell ⟨gb1002, 1, none⟩ (.slice Ao17 t999.length co17)).heap[gb992]? = some (.cells #[.string a0_0, .int .i64 a0_1, .slice A0_2 l0_2.length c0_2, .int .i64 a0_3, .slice A0_4 l0_4.length c0_4] 30 (0, 0))) := ⟨by (with_reducible repeat (first | refine blk_drewN ?_ _ | refine blk_drew ?_ | refine blk_alloc ?_ _)); refine blk_far ?_ NB992_1002.out _; (with_reducible repeat (first | refine blk_drewN ?_ _ | refine blk_drew ?_ | refine blk_alloc ?_ _)); refine blk_far ?_ NB992_1002.out _; (with_reducible repeat (first | refine blk_drewN ?_ _ | refine blk_drew ?_ | refine blk_alloc ?_ _)); exact BK992.out⟩
   have n3_ : Aside0 (((w13.setCell ⟨gb1002, 0, none⟩ (.slice Ao14 t996.length co14)).setCell ⟨gb1002, 1, none⟩ (.slice Ao17 t999.length co17)).heap[gb1002]? = some (.cells #[.slice Ao14 t996.length co14, .slice Ao17 t999.length co17] 52 (0, 0))) := ⟨by (with_reducible repeat (first | refine blk_drewN ?_ _ | refine blk_drew ?_ | refine blk_alloc ?_ _)); refine blk_put (cs := #[.slice Ao14 t996.length co14, .slice none 0 0]) ?_ 1 _ rfl; (with_reducible repeat (first | refine blk_drewN ?_ _ | refine blk_drew ?_ | refine blk_alloc ?_ _)); refine blk_put (cs := #[.slice none 0 0, .slice none 0 0]) ?_ 0 _ rfl; (with_reducible repeat (first | refine blk_drewN ?_ _ | refine blk_drew ?_ | refine blk_alloc ?_ _)); exact BK1002.out⟩
   have n4_ : Aside0 (Below w.heap.size w ((w13.setCell ⟨gb1002, 0, none⟩ (.slice Ao14 t996.length co14)).setCell ⟨gb1002, 1, none⟩ (.slice Ao17 t999.length co17))) := ⟨ bz⟩
   (try clear HO998)
   (try clear HO1001)
   (try clear BK992)
   (try clear BK1002)
   (try clear HB)
   generalize ((w13.setCell ⟨gb1002, 0, none⟩ (.slice Ao14 t996.length co14)).setCell ⟨gb1002, 1, none⟩ (.slice Ao17 t999.length co17)) = w18 at n0_ n1_ n2_ n3_ n4_ ⊢
   have HO998 := n0_
   have HO1001 := n1_
   have BK992 := n2_
   have BK1002 := n3_
   have HB := n4_
   clear n0_ n1_ n2_ n3_ n4_
   have n0_ := Aside0.mk (Kd.S_drew HO998.out)
   have n1_ := Aside0.mk (Kd.S_drew HO1001.out)
   have n2_ := Aside0.mk (blk_drew BK992.out)
   have n3_ := Aside0.mk (blk_drew BK1002.out)
   have n4_ := Aside0.mk (below_drew1 HB.out)
   clear HO998
   clear HO1001
   clear BK992
   clear BK1002
   clear HB
   have HO998 := n0_
   have HO1001 := n1_
   have BK992 := n2_
   have BK1002 := n3_
   have HB := n4_
   clear n0_ n1_ n2_ n3_ n4_
   refine start_ (n := 5) (S := fun w' => w'.cell? ⟨gb1002, 0, none⟩ = some (.slice Ao14 t996.length co14) ∧ w'.cell? ⟨gb1002, 1, none⟩ = some (.slice Ao17 t999.length co17)) (ds := []) #[false, false, false, false, false] (by kernel_rfl) rfl rfl ⟨(blk_cell BK1002.out 0).trans rfl, (blk_cell BK1002.out 1).trans rfl⟩ (fun hHeld => ?_)
   generalize w18.drew = w19 at HO998 HO1001 BK992 BK1002 HB hHeld ⊢
   refine take_ (i := 0) (N := some 11) (v := ?_) (a' := ?_) #[true, false, false, false, false] rfl rfl (by kernel_rfl) (fun _ _ _ h => h) (Or.inl ⟨by rfl, ?_⟩) hHeld ?_ ?_
   rotate_left
   · rintro w' ⟨s0, s1⟩
     go_simp
     with_reducible rfl
   rotate_left
   · simp only [Act.put, sx1, sx2, sx3, i64_w, i32_w]
     rfl
   refine take_ (i := 1) (N := some 12) (v := ?_) (a' := ?_) #[true, true, false, false, false] rfl rfl (by kernel_rfl) (fun _ _ _ h => h) (Or.inl ⟨by rfl, ?_⟩) hHeld ?_ ?_
   rotate_left
   · rintro w' ⟨s0, s1⟩
     go_simp
     with_reducible rfl
   rotate_left
   · simp only [Act.put, sx1, sx2, sx3, i64_w, i32_w]
     rfl
   refine one_ (i := 2) (N := some 13) #[true, true, true, false, false] rfl rfl (by kernel_rfl) (by decide) (fun K hK => ?_)
   refine goes_ Try.func59 (by kernel_rfl) rfl #[.agg #[.slice Ao14 t996.length co14, .slice Ao17 t999.length co17]] (by rfl) rfl rfl lz ?_
   with_reducible refine (spec_l4Doms.calls k _ _ t996 _ _ t999 t1003 _ ?side1 ?side2 ?side3 ?side4 A8.out).mono ?_
   (case side1 => repeat (first | exact (Kd.S_reads' HO998.out).2.2 | (with_reducible refine Kd.C_alloc ?_ _) | (with_reducible refine Kd.C_drewN ?_ _) | (with_reducible refine Kd.C_drew ?_)))
   (case side2 => exact (Kd.S_reads' HO998.out).2.1)
   (case side3 => repeat (first | exact (Kd.S_reads' HO1001.out).2.2 | (with_reducible refine Kd.C_alloc ?_ _) | (with_reducible refine Kd.C_drewN ?_ _) | (with_reducible refine Kd.C_drew ?_)))
   (case side4 => exact (Kd.S_reads' HO1001.out).2.1)
   rintro e w20 ⟨v1004, rfl, ho0, hb⟩
   refine ⟨_, rfl, ?_⟩
   have n0_ := Aside0.mk (Kd.S_below (rs HO998.out) hb)
   have n1_ := Aside0.mk (Kd.S_below (rs HO1001.out) hb)
   have n2_ := Aside0.mk (Kd.S_lower ho0 (below_size bz))
   have n3_ := Aside0.mk (blk_below (g := gb992) (o := .cells #[.string a0_0, .int .i64 a0_1, .slice A0_2 l0_2.length c0_2, .int .i64 a0_3, .slice A0_4 l0_4.length c0_4] 30 (0, 0)) kz hb)
   have n4_ := Aside0.mk (blk_below (g := gb1002) (o := .cells #[.slice Ao14 t996.length co14, .slice Ao17 t999.length co17] 52 (0, 0)) kz hb)
   have n5_ := Aside0.mk (below_step bz hb)
   clear HO998
   clear HO1001
   clear BK992
   clear BK1002
   clear HB
   have HO998 := n0_
   have HO1001 := n1_
   have HO1005 := n2_
   have BK992 := n3_
   have BK1002 := n4_
   have HB := n5_
   clear n0_ n1_ n2_ n3_ n4_ n5_
   (try clear hb)
   (try clear hb2)
   (try clear hk)
   (try clear hi)
   (try clear ho0)
   obtain ⟨Ao21, co21, eo21⟩ := Kd.S_slice HO1005.out
   (first | subst eo21 | (injection eo21 with f1_ f2_ f3_; have f4_ := f1_.symm; have f5_ := f3_.symm; clear f1_ f2_ f3_; subst f4_; subst f5_))
   refine hK.out _ _ ⟨(blk_cell BK1002.out 0).trans rfl, (blk_cell BK1002.out 1).trans rfl⟩ (fun hHeld => ?_)
   clear hK K
   refine norm_ (a' := ?_) ?_ ?_
   rotate_left
   · show Act.put _ (some 13) _ = _
     simp only [Act.put, sx1, sx2, sx3, i64_w, i32_w]
     rfl
   refine one_ (i := 3) (N := some 14) #[true, true, true, true, false] rfl rfl (by kernel_rfl) (by decide) (fun K hK => ?_)
   refine goes_ Try.func62 (by kernel_rfl) rfl #[.agg #[.slice Ao14 t996.length co14, .slice Ao17 t999.length co17], .slice Ao21 t1003.length co21] (by rfl) rfl rfl lz ?_
   with_reducible refine (spec_l4Loops.calls k _ _ t996 _ _ t999 _ _ t1003 t1006 _ ?side1 ?side2 ?side3 ?side4 ?side5 ?side6 A9.out).mono ?_
   (case side1 => repeat (first | exact (Kd.S_reads' HO998.out).2.2 | (with_reducible refine Kd.C_alloc ?_ _) | (with_reducible refine Kd.C_drewN ?_ _) | (with_reducible refine Kd.C_drew ?_)))
   (case side2 => exact (Kd.S_reads' HO998.out).2.1)
   (case side3 => repeat (first | exact (Kd.S_reads' HO1001.out).2.2 | (with_reducible refine Kd.C_alloc ?_ _) | (with_reducible refine Kd.C_drewN ?_ _) | (with_reducible refine Kd.C_drew ?_)))
   (case side4 => exact (Kd.S_reads' HO1001.out).2.1)
   (case side5 => repeat (first | exact (Kd.S_reads' HO1005.out).2.2 | (with_reducible refine Kd.C_alloc ?_ _) | (with_reducible refine Kd.C_drewN ?_ _) | (with_reducible refine Kd.C_drew ?_)))
   (case side6 => exact (Kd.S_reads' HO1005.out).2.1)
   rintro e w22 ⟨v1007, rfl, ho0, hb⟩
   refine ⟨_, rfl, ?_⟩
   have n0_ := Aside0.mk (Kd.S_below (rs HO998.out) hb)
   have n1_ := Aside0.mk (Kd.S_below (rs HO1001.out) hb)
   have n2_ := Aside0.mk (Kd.S_below (rs HO1005.out) hb)
   have n3_ := Aside0.mk (Kd.S_lower ho0 (below_size bz))
   have n4_ := Aside0.mk (blk_below (g := gb992) (o := .cells #[.string a0_0, .int .i64 a0_1, .slice A0_2 l0_2.length c0_2, .int .i64 a0_3, .slice A0_4 l0_4.length c0_4] 30 (0, 0)) kz hb)
   have n5_ := Aside0.mk (blk_below (g := gb1002) (o := .cells #[.slice Ao14 t996.length co14, .slice Ao17 t999.length co17] 52 (0, 0)) kz hb)
   have n6_ := Aside0.mk (below_step bz hb)
   clear HO998
   clear HO1001
   clear HO1005
   clear BK992
   clear BK1002
   clear HB
   have HO998 := n0_
   have HO1001 := n1_
   have HO1005 := n2_
   have HO1008 := n3_
   have BK992 := n4_
   have BK1002 := n5_
   have HB := n6_
   clear n0_ n1_ n2_ n3_ n4_ n5_ n6_
   (try clear hb)
   (try clear hb2)
   (try clear hk)
   (try clear hi)
   (try clear ho0)
   refine hK.out _ _ ⟨(blk_cell BK1002.out 0).trans rfl, (blk_cell BK1002.out 1).trans rfl⟩ (fun hHeld => ?_)
   clear hK K
   refine norm_ (a' := ?_) ?_ ?_
   rotate_left
   · show Act.put _ (some 14) _ = _
     simp only [Act.put, sx1, sx2, sx3, i64_w, i32_w]
     rfl
   refine pure_ (i := 4) (N := some 2) (v := ?_) (a' := ?_) #[true, true, true, true, true] rfl rfl (by kernel_rfl) (fun _ _ _ h => h) (Or.inl ⟨by rfl, ?_⟩) ?_ ?_
   rotate_left
   · intro w'
     go_simp
     with_reducible rfl
   rotate_left
   · simp only [Act.put, sx1, sx2, sx3, i64_w, i32_w]
     rfl
   refine done_ (by kernel_rfl) ?_
   try go_wp2
   go_ret
   exact ⟨_, by first | rfl | (simp [errW_none, errW_some] <;> rfl) | (simp [*, errW_none, errW_some] <;> rfl), by (with_reducible repeat (first | apply Kd.S_alloc | apply Kd.S_drewN | apply Kd.S_drew)); exact HO1008.out, bz⟩

end Go.Proofs.Ytoedcnhgobbnfaa.All

/- Maps of bools that a call makes: as sets of numbers. -/
namespace Go.Proofs.Ytoedcnhgobbnfaa.All
open Go.RowKit Go.Proofs.YtoedcnhgobbnfaaW.PrintWords Go.Proofs.YtoedcnhgobbnfaaW.PrintLast Go.Proofs.YtoedcnhgobbnfaaW.PrintMore
set_option linter.unusedVariables false
set_option linter.unusedSimpArgs false
open Go.Maps (Keyed)
theorem plainElem_bool_inv {H : Type} {P : Program} {e : TypeId} (he : P.underlying e = some .bool) {v : Value} {z : DataW H × List MemPlace} (h : plainElem P e v = some z) : ∃ x, v = .bool x ∧ z = (.lit (.bool x), []) := by
  unfold plainElem at h
  rw [he] at h
  cases v <;> simp at h
  exact ⟨_, rfl, h.symm⟩
/-- Block b is a map of at most n entries from int64 (type k) to bool (type e); S is what is told of a number. -/
def IsSet (P : Program) (k e : TypeId) (w : World) (b n : Nat) (S : Int → Bool) : Prop :=
  ∃ D : DataW Unit, w.ownsMap P k (plainElem P e) b n D ∧ ∀ x, (Lit.int .i64 x).wf = true → D.atKey (.int .i64 x) (.lit (.bool false)) = .lit (.bool (S x))
section
variable {P : Program} {k e : TypeId} {w w1 : World} {b n : Nat} {S : Int → Bool}
theorem IsSet.made (w : World) (P : Program) (k e : TypeId) : IsSet P k e (w.alloc (.map #[] 0)) w.heap.size 0 (fun _ => false) :=
  ⟨.map [], World.ownsMap_made w P k _, fun x _ => by simp [DataW.atKey]⟩
theorem IsSet.kept {row : Option Nat} (h : IsSet P k e w b n S) (hg : w.grownBy w1 row) (hne : some b ≠ row) : IsSet P k e w1 b n S := by
  obtain ⟨D, h1, h2⟩ := h
  exact ⟨D, h1.kept hg hne, h2⟩
theorem IsSet.below (h : IsSet P k e w b n S) (hb : Below w.heap.size w w1) : IsSet P k e w1 b n S := h.kept (grown_of_below hb none) (by simp)
theorem IsSet.alloc (h : IsSet P k e w b n S) (o : Obj) : IsSet P k e (w.alloc o) b n S := h.below (below_alloc (Below.refl _ _) o)
theorem IsSet.drewN (h : IsSet P k e w b n S) (m : Nat) : IsSet P k e (w.drewN m) b n S := h
theorem IsSet.drew (h : IsSet P k e w b n S) : IsSet P k e w.drew b n S := h
theorem IsSet.mono (h : IsSet P k e w b n S) {n' : Nat} (hn : n ≤ n') : IsSet P k e w b n' S := by obtain ⟨D, h1, h2⟩ := h; exact ⟨D, h1.mono hn, h2⟩
theorem IsSet.congr {S' : Int → Bool} (h : IsSet P k e w b n S) (he : ∀ x, S' x = S x) : IsSet P k e w b n S' := by obtain ⟨D, h1, h2⟩ := h; exact ⟨D, h1, fun x hx => by rw [he]; exact h2 x hx⟩
theorem IsSet.look {t : TypeId} (h : IsSet P k e w b n S) (hk : P.underlying k = some (.int .i64)) (ht : P.underlying t = some (.map k e)) (he : P.underlying e = some .bool) (hz : (zeroValue e).run P w = .ok (.bool false) w) {x : Int} (hx : (Lit.int .i64 x).wf = true) :
    (Instr.lookup t (.map (some b)) (.int .i64 x) false).run P w = .ok (.bool (S x)) w := by
  obtain ⟨D, h1, h2⟩ := h
  obtain ⟨v, ps, hrun, hv⟩ := h1.lookup (Maps.int_keyed hk) ht hz (plainElem_bool he false) (Maps.keyOf_int_mk hk hx)
  obtain ⟨c, rfl, hc⟩ := plainElem_bool_inv he hv
  simp only [Prod.mk.injEq] at hc
  have := h2 x hx
  rw [hc.1] at this
  injection this with this
  injection this with this
  rw [this] at hrun
  exact hrun
theorem IsSet.put {t : TypeId} (h : IsSet P k e w b n S) (hk : P.underlying k = some (.int .i64)) (ht : P.underlying t = some (.map k e)) (he : P.underlying e = some .bool) (hn : n < maxLen) {x : Int} (hx : (Lit.int .i64 x).wf = true) (v : Bool) :
    ∃ w', (Instr.mapUpdate t (.map (some b)) (.int .i64 x) (.bool v)).run P w = .ok () w' ∧ IsSet P k e w' b (n + 1) (fun y => if y = x then v else S y) ∧ w.grownBy w' (some b) := by
  obtain ⟨D, h1, h2⟩ := h
  have hm := h1.isMap
  obtain ⟨w', hrun, h3, hg⟩ := h1.update (Maps.int_keyed hk) ht hn (Maps.keyOf_int_mk hk hx) (plainElem_bool he v)
  refine ⟨w', hrun, ⟨_, h3, fun y hy => ?_⟩, hg⟩
  by_cases hxy : y = x
  · subst hxy
    rw [Maps.atKey_put_same hm (by simp [WideAt.IsKeyLit])]
    simp
  · rw [Maps.atKey_put_other (by simpa using hxy), h2 y hy]
    simp [hxy]
end
section
variable {P : Program} {ops : Array Oper} {rest : List Oper} {o : Oper} {a : Act} {Q : Exit → Act → World → Prop} {w : World}
theorem wpList_look_set (hg : o.guard = none) (m x : Operand) (t : TypeId) (hop : o.op = Op.lookup t m x false) (k e : TypeId) (hk : P.underlying k = some (.int .i64)) (ht : P.underlying t = some (.map k e)) (he : P.underlying e = some .bool)
    (hz : (zeroValue e).run P w = .ok (.bool false) w) (b n : Nat) (S : Int → Bool) (hm : a.eval m = .map (some b)) (hs : IsSet P k e w b n S) (i : Int) (hx : a.eval x = .int .i64 i) (hw : (Lit.int .i64 i).wf = true)
    (hK : wpList P ops Q rest (a.put o.dst (.bool (S i))) w) : wpList P ops Q (o :: rest) a w := by
  refine wpList_plain hg fun K' hK' => ?_
  have hrun := hs.look hk ht he hz hw
  unfold Oper.wp
  simp [execOp, hop, hm, hx, hrun, Result.andThen]
  exact hK' _ _ hK
theorem wpList_put_set (hg : o.guard = none) (m x v : Operand) (t : TypeId) (hop : o.op = Op.mapUpdate t m x v) (k e : TypeId) (hk : P.underlying k = some (.int .i64)) (ht : P.underlying t = some (.map k e)) (he : P.underlying e = some .bool)
    (b n : Nat) (S : Int → Bool) (hm : a.eval m = .map (some b)) (hs : IsSet P k e w b n S) (hn : n < maxLen) (i : Int) (hx : a.eval x = .int .i64 i) (hw : (Lit.int .i64 i).wf = true) (c : Bool) (hv : a.eval v = .bool c)
    (hK : ∀ w', IsSet P k e w' b (n + 1) (fun y => if y = i then c else S y) → w.grownBy w' (some b) → wpList P ops Q rest (a.put o.dst undef) w') : wpList P ops Q (o :: rest) a w := by
  refine wpList_plain hg fun K' hK' => ?_
  obtain ⟨w', hrun, r1, r2⟩ := hs.put hk ht he hn hw c
  unfold Oper.wp
  simp [execOp, hop, hm, hx, hv, hrun, Result.andThen]
  exact hK' _ _ (hK w' r1 r2)
end
/-- A row of one's own is no map. -/
theorem Kd.R_notset {α : Type} {d : Kd α} {P : Program} {e : Nat} {k t : TypeId} {w : World} {base b n : Nat} {ok : Nat → Prop} {v : Value} {xs : List α} {S : Int → Bool} (h : d.R e w base ok v xs) (hs : IsSet P k t w b n S) : d.R e w base (fun j => ok j ∧ j ≠ b) v xs := by
  obtain ⟨D, ⟨es, clock, hb, _⟩, _⟩ := hs
  refine Kd.R_mono (Kd.R_bound h) (fun j hj => ⟨hj.1, ?_⟩)
  rintro rfl
  obtain ⟨_, _, _, q, _, cells, hc⟩ := hj
  rw [hc] at hb
  injection hb with hb
  cases hb
theorem Kd.R_notset_own {α : Type} {d : Kd α} {P : Program} {e : Nat} {k t : TypeId} {w : World} {base b n : Nat} {ok : Nat → Prop} {v : Value} {xs : List α} {S : Int → Bool} (h : d.R e w base ok v xs) (hs : IsSet P k t w b n S) : some b ≠ v.ownBlock := fun he => ((Kd.R_notset h hs).1 b he.symm).2 rfl
end Go.Proofs.Ytoedcnhgobbnfaa.All

/- The blocks that a block goes to, each once, in order: a plain list function. -/
namespace Go.Proofs.Ytoedcnhgobbnfaa.All
open Go.RowKit Go.Proofs.YtoedcnhgobbnfaaW.PrintWords Go.Proofs.YtoedcnhgobbnfaaW.PrintLast Go.Proofs.YtoedcnhgobbnfaaW.PrintMore
set_option linter.unusedVariables false
set_option linter.unusedSimpArgs false
def stepN (n : Nat) (acc : List Int) (b : Int) : List Int := if 0 ≤ b ∧ b < (n : Int) ∧ acc.contains b = false then acc ++ [b] else acc
def nextL (n : Nat) (bs : List Int) : List Int := bs.foldl (stepN n) []
theorem nextL_take (n : Nat) (bs : List Int) (m : Nat) (h : m < bs.length) : nextL n (bs.take (m + 1)) = stepN n (nextL n (bs.take m)) bs[m] := by
  unfold nextL
  rw [List.take_succ_eq_append_getElem h, List.foldl_append]
  rfl
theorem foldl_stepN_len (n : Nat) : ∀ (bs acc : List Int), (bs.foldl (stepN n) acc).length ≤ acc.length + bs.length
  | [], acc => by simp
  | b :: bs, acc => by
    have h1 := foldl_stepN_len n bs (stepN n acc b)
    have h2 : (stepN n acc b).length ≤ acc.length + 1 := by unfold stepN; split <;> simp
    rw [List.foldl_cons, List.length_cons]
    omega
theorem nextL_len (n : Nat) (bs : List Int) : (nextL n bs).length ≤ bs.length := by
  have := foldl_stepN_len n bs []
  simpa [nextL] using this
theorem foldl_stepN_range (n : Nat) : ∀ (bs acc : List Int), (∀ x ∈ acc, 0 ≤ x ∧ x < (n : Int)) → ∀ x ∈ bs.foldl (stepN n) acc, 0 ≤ x ∧ x < (n : Int)
  | [], acc, h => h
  | b :: bs, acc, h => by
    rw [List.foldl_cons]
    refine foldl_stepN_range n bs _ ?_
    unfold stepN
    split
    · rename_i hc
      intro x hx
      rcases List.mem_append.1 hx with hx | hx
      · exact h x hx
      · rw [List.mem_singleton.1 hx]; exact ⟨hc.1, hc.2.1⟩
    · exact h
theorem nextL_range (n : Nat) (bs : List Int) : ∀ x ∈ nextL n bs, 0 ≤ x ∧ x < (n : Int) := foldl_stepN_range n bs [] (by simp)
theorem foldl_stepN_nodup (n : Nat) : ∀ (bs acc : List Int), acc.Nodup → (bs.foldl (stepN n) acc).Nodup
  | [], acc, h => h
  | b :: bs, acc, h => by
    rw [List.foldl_cons]
    refine foldl_stepN_nodup n bs _ ?_
    unfold stepN
    split
    · rename_i hc
      have hb : b ∉ acc := by have := hc.2.2; simpa using this
      rw [List.nodup_append]
      exact ⟨h, by simp, fun x hx y hy e => hb (by rw [List.mem_singleton.1 hy] at e; exact e ▸ hx)⟩
    · exact h
theorem nextL_nodup (n : Nat) (bs : List Int) : (nextL n bs).Nodup := foldl_stepN_nodup n bs [] List.nodup_nil
end Go.Proofs.Ytoedcnhgobbnfaa.All

namespace Go.Proofs.Ytoedcnhgobbnfaa.All
open Go.RowKit Go.Proofs.YtoedcnhgobbnfaaW.PrintWords Go.Proofs.YtoedcnhgobbnfaaW.PrintLast Go.Proofs.YtoedcnhgobbnfaaW.PrintMore
attribute [local go_sem] max2_int min2_int max_two min_two max_three min_three max_four min_four   -- for this text's walks alone
set_option linter.unusedVariables false
set_option linter.unusedSimpArgs false

def impl_NextBlocks.f (a0_0 : ByteArray) (a0_1 : Int) (l0_2 : List Int) (a0_3 : Int) (l0_4 : List (S62)) (a1 : Int) : Option (List Int) :=
 if a1 < 0 then some [] else if (l0_4.length : Int) ≤ a1 then some [] else if (rd_T62 l0_4 a1).f0.length = 0 then some [] else
 if l0_4.length ≤ 1000000000 ∧ (rd_T62 l0_4 a1).f0.length ≤ 1000000000 ∧ (rd_T66 (rd_T62 l0_4 a1).f0 (((rd_T62 l0_4 a1).f0.length : Int) - 1)).f7.length ≤ 1000000000 then some (nextL l0_4.length (rd_T66 (rd_T62 l0_4 a1).f0 (((rd_T62 l0_4 a1).f0.length : Int) - 1)).f7) else none
set_option maxHeartbeats 4000000 in
set_option maxRecDepth 100000 in
theorem impl_NextBlocks.none_ (a0_0 : ByteArray) (a0_1 : Int) (A0_2 : Option Addr) (c0_2 : Nat) (l0_2 : List Int) (a0_3 : Int) (A0_4 : Option Addr) (c0_4 : Nat) (l0_4 : List (S62)) (a1 : Int) (w : World) (hr0_4 : Kd.C k62 w A0_4 l0_4.length l0_4) (hn : a1 < 0 ∨ (l0_4.length : Int) ≤ a1 ∨ (rd_T62 l0_4 a1).f0.length = 0) :
 Calls Try.prog 18 #[.agg #[.string a0_0, .int .i64 a0_1, .slice A0_2 l0_2.length c0_2, .int .i64 a0_3, .slice A0_4 l0_4.length c0_4], .int .i64 a1] w fun e w' => e = .returned (.slice none 0 0) ∧ Below w.heap.size w w' := by
 have HR := Aside0.mk hr0_4
 clear hr0_4
 have hu := Try.underlying30
 by_cases h1 : a1 < 0
 · have c1 : decide (a1 < 0) = true := decide_eq_true h1
   clear h1 hn
   go_enter Try.func18, Try.ntmps18
   go_wp2
   go_ret
   exact ⟨rfl, below_alloc (Below.refl _ _) _⟩
 · have c1 : decide (a1 < 0) = false := decide_eq_false h1
   by_cases h2 : (l0_4.length : Int) ≤ a1
   · have c2 : decide ((l0_4.length : Int) ≤ a1) = true := decide_eq_true h2
     clear h1 h2 hn
     go_enter Try.func18, Try.ntmps18
     go_wp2
     go_ret
     exact ⟨rfl, below_alloc (Below.refl _ _) _⟩
   · have c2 : decide ((l0_4.length : Int) ≤ a1) = false := decide_eq_false h2
     have h3 : (rd_T62 l0_4 a1).f0.length = 0 := by rcases hn with h | h | h <;> first | omega | exact h
     obtain ⟨ad, A1, c1_, e1, hx, hl, hi⟩ := at_T62 HR.out a1 (by omega) (by omega)
     subst e1
     have hx1 : (w.alloc (.cells #[.string a0_0, .int .i64 a0_1, .slice A0_2 l0_2.length c0_2, .int .i64 a0_3, .slice (some ad) l0_4.length c0_4] 30)).cell? (ad.add a1.toNat) = some (.slice A1 (rd_T62 l0_4 a1).f0.length c1_) := ((below_alloc (Below.refl w.heap.size w) _).cell (World.block_lt_of_cell? w _ hx)).trans hx
     rw [h3] at hx1
     have h4 : 0 ≤ a1 := by omega
     have h5 : a1 < (l0_4.length : Int) := by omega
     clear h1 h2 hn hi hx hl h3
     go_enter Try.func18, Try.ntmps18
     go_wp2
     go_ret
     exact ⟨rfl, below_alloc (Below.refl _ _) _⟩
set_option maxHeartbeats 4000000 in
set_option maxRecDepth 100000 in
theorem impl_NextBlocks.some_ (a0_0 : ByteArray) (a0_1 : Int) (A0_2 : Option Addr) (c0_2 : Nat) (l0_2 : List Int) (a0_3 : Int) (A0_4 : Option Addr) (c0_4 : Nat) (l0_4 : List (S62)) (a1 : Int) (w : World) (hr0_4 : Kd.C k62 w A0_4 l0_4.length l0_4) (h1 : 0 ≤ a1) (h2 : a1 < (l0_4.length : Int)) (L : List (S66)) (hL : L = (rd_T62 l0_4 a1).f0) (h3 : 0 < L.length) (bs : List Int) (hbs : bs = (rd_T66 L ((L.length : Int) - 1)).f7) (b1 : l0_4.length ≤ 1000000000) (b2 : L.length ≤ 1000000000) (b3 : bs.length ≤ 1000000000) :
 Calls Try.prog 18 #[.agg #[.string a0_0, .int .i64 a0_1, .slice A0_2 l0_2.length c0_2, .int .i64 a0_3, .slice A0_4 l0_4.length c0_4], .int .i64 a1] w fun e w' => ∃ v0_ : Value, e = .returned v0_ ∧ Kd.R (Kd.int .i64) 2 w' w.heap.size (fun _ => True) v0_ (nextL l0_4.length bs) ∧ Below w.heap.size w w' := by
 have hu := Try.underlying30
 have c1 : decide (a1 < 0) = false := decide_eq_false (by omega)
 have c2 : decide ((l0_4.length : Int) ≤ a1) = false := decide_eq_false (by omega)
 have c3 : ((L.length : Int) == 0) = false := by rw [beq_eq_false_iff_ne]; omega
 obtain ⟨ad, A1, k1, e1, hx, hl, hi⟩ := at_T62 hr0_4 a1 h1 h2
 subst e1
 rw [← hL] at hx hl hi
 obtain ⟨ad2, A26, k26, A27, k27, A28, k28, e2, y0, y1, y2, y3, y4, y5, y6, y7, y8, l6, i6, l7, i7, l8, i8⟩ := at_T66 hi ((L.length : Int) - 1) (by omega) (by omega)
 subst e2
 rw [← hbs] at y7 l7 i7
 rw [show ((L.length : Int) - 1).toNat = L.length - 1 from by omega] at y7
 clear y0 y1 y2 y3 y4 y5 y6 y8 l6 i6 l8 i8 hL hbs hi hr0_4
 have B0 : Below w.heap.size w (w.alloc (.cells #[.string a0_0, .int .i64 a0_1, .slice A0_2 l0_2.length c0_2, .int .i64 a0_3, .slice (some ad) l0_4.length c0_4] 30)) := below_alloc (Below.refl w.heap.size w) _
 have hx1 := (B0.cell (World.block_lt_of_cell? w _ hx)).trans hx
 have B1 : Below w.heap.size w ((w.alloc (.cells #[.string a0_0, .int .i64 a0_1, .slice A0_2 l0_2.length c0_2, .int .i64 a0_3, .slice (some ad) l0_4.length c0_4] 30)).alloc (.map #[] 0)) := below_alloc B0 _
 have hy1 := (B1.cell (World.block_lt_of_cell? w _ y7)).trans y7
 have HBm := Aside0.mk B1
 have HK0 := Aside0.mk (alloc2_0 w (.cells #[.string a0_0, .int .i64 a0_1, .slice A0_2 l0_2.length c0_2, .int .i64 a0_3, .slice (some ad) l0_4.length c0_4] 30) (.map #[] 0))
 have HS0 := Aside0.mk (IsSet.made (w.alloc (.cells #[.string a0_0, .int .i64 a0_1, .slice A0_2 l0_2.length c0_2, .int .i64 a0_3, .slice (some ad) l0_4.length c0_4] 30)) Try.prog 2 4)
 have HI := Aside0.mk i7
 clear hx y7 i7 B0 B1
 have hmm := @run_makeMap Try.prog
 go_enter Try.func18, Try.ntmps18
 go_wp2
 go_loopw [6, 44] (fun v6 v44 w' => ∃ m : Nat, m ≤ bs.length ∧ v44 = .int .i64 (m : Int) ∧ Aside0 (Kd.R (Kd.int .i64) 2 w' w.heap.size (fun _ => True) v6 (nextL l0_4.length (bs.take m))) ∧ Aside0 (IsSet Try.prog 2 4 w' (w.heap.size + 1) m (fun y => (nextL l0_4.length (bs.take m)).contains y)) ∧ Aside0 (Below w.heap.size w w') ∧ Aside0 (w'.heap[w.heap.size]? = some (.cells #[.string a0_0, .int .i64 a0_1, .slice A0_2 l0_2.length c0_2, .int .i64 a0_3, .slice (some ad) l0_4.length c0_4] 30 (0, 0)))) (fun _ v44 _ => bs.length - (intOf v44).toNat)
 case atStart => exact ⟨0, Nat.zero_le _, rfl, ⟨Kd.R_nil _ _ _ _ _⟩, ⟨by have h := HS0.out; rw [World.size_alloc] at h; exact h.congr (fun _ => rfl)⟩, HBm, HK0⟩
 case round =>
  clear HBm HK0 HS0 hx1 hy1 hmm
  obtain ⟨m, hm, rfl, HO, HS, HB, HK⟩ := hrel
  by_cases hlt : m < bs.length
  · have hrd := Kd.reads_of_C (d := (0 : Int)) (Kd.C_below HI.out HB.out)
    obtain ⟨ad3, e3, hb⟩ := ReadsInt.at_ (k := .i64) hrd (m : Int) (by omega) (by omega)
    subst e3
    clear hrd
    have htk := nextL_take l0_4.length bs m hlt
    obtain ⟨b, hbm⟩ : ∃ b, b = bs[m] := ⟨_, rfl⟩
    have hrb : rd bs (m : Int) = b := by rw [hbm]; simp [rd, List.getElem?_eq_getElem hlt]
    rw [hrb, Int.toNat_natCast] at hb
    rw [← hbm] at htk
    have HT := Aside0.mk htk
    have hlen := nextL_len l0_4.length (bs.take m)
    rw [List.length_take] at hlen
    have HL := Aside0.mk hlen
    have d4 : wr.cell? ⟨w.heap.size, 4, none⟩ = some (.slice (some ad) l0_4.length c0_4) := (blk_cell HK.out 4).trans rfl
    clear htk hbm hrb hlen
    have hz : ∀ W : World, (zeroValue 4).run Try.prog W = .ok (.bool false) W := fun W => by kernel_rfl
    by_cases q0 : 0 ≤ b
    · by_cases q1 : b < (l0_4.length : Int)
      · have hw : (Lit.int .i64 b).wf = true := WalkArith.wf_i64 ⟨by omega, by omega⟩
        have HW := Aside0.mk hw
        have HZ := Aside0.mk hz
        clear hw hz
        have t0 : decide (0 ≤ b) = true := decide_eq_true q0
        have t1 : decide (b < (l0_4.length : Int)) = true := decide_eq_true q1
        by_cases q2 : (nextL l0_4.length (bs.take m)).contains b = true
        · have hst : stepN l0_4.length (nextL l0_4.length (bs.take m)) b = nextL l0_4.length (bs.take m) := by unfold stepN; rw [if_neg (by rw [q2]; simp)]
          have HST := Aside0.mk hst
          have HQ := Aside0.mk q2
          clear hst q2
          go_wp2_with (first | ((with_reducible refine gate_dst (N := 60) rfl ?_); (try (refine gate_guard (by rfl) ?_; dsimp only)); refine wpList_look_set rfl _ _ 68 rfl 2 4 Try.underlying2 Try.underlying68 Try.underlying4 (HZ.out _) (w.heap.size + 1) m _ rfl HS.out b rfl HW.out ?_; dsimp only; rw [HQ.out]))
          go_roundw
          case measure => simp [intOf]; omega
          case rel => exact ⟨m + 1, by omega, by go_num, ⟨by rw [HT.out, HST.out]; exact HO.out⟩, ⟨by rw [HT.out, HST.out]; exact HS.out.mono (by omega)⟩, HB, HK⟩
        · have q3 : (nextL l0_4.length (bs.take m)).contains b = false := by simpa using q2
          have hst : stepN l0_4.length (nextL l0_4.length (bs.take m)) b = nextL l0_4.length (bs.take m) ++ [b] := by unfold stepN; rw [if_pos ⟨q0, q1, q3⟩]
          have HST := Aside0.mk hst
          have HQ := Aside0.mk q3
          clear hst q2 q3
          go_wp2_with (first | ((with_reducible refine gate_dst (N := 60) rfl ?_); (try (refine gate_guard (by rfl) ?_; dsimp only)); refine wpList_look_set rfl _ _ 68 rfl 2 4 Try.underlying2 Try.underlying68 Try.underlying4 (HZ.out _) (w.heap.size + 1) m _ rfl HS.out b rfl HW.out ?_; dsimp only; rw [HQ.out]) | (at_mapUpdate; refine wpList_put_set rfl _ _ _ 68 rfl 2 4 Try.underlying2 Try.underlying68 Try.underlying4 (w.heap.size + 1) m _ rfl HS.out ?ml b rfl HW.out true rfl ?_; (case ml => simp only [maxLen]; omega); intro w1 hs1 hg1; have n0 := Aside0.mk (Kd.R_grown (Kd.R_notset HO.out HS.out) hg1 (fun k hk => by simpa using hk.2)); have n1 := Aside0.mk hs1; have n2 := Aside0.mk (pw_below_grown HB.out (some (w.heap.size + 1)) HB.out.size hg1 (fun k hk => by injection hk with hk; omega)); have n3 := Aside0.mk (blk_grown HK.out hg1 (by simp)); clear HO HS HB HK hs1 hg1; have HO := n0; have HS := n1; have HB := n2; have HK := n3; clear n0 n1 n2 n3) | (at_builtin; refine Kd.R_append (Kd.int .i64) (w0 := w) w.heap.size rfl (.tmp 65) (.tmp 67) 22 2 (.int .i64 0) 8 rfl Try.underlying22 info2 rfl (by decide) (by omega) u6 (nextL l0_4.length (bs.take m)) b [.int .i64 b] (fun _ => True) (fun _ => False) rfl rfl ?aP (fun _ hk => hk.elim) ?aF ?aO ?aB ?aS ?aL ?_; (case aP => exact rfl); (case aF => exact (fun _ _ => trivial)); (case aO => exact Kd.R_mono HO.out (fun _ _ => trivial)); (case aB => exact HB.out); (case aS => exact HB.out.size); (case aL => have := HL.out; omega); intro v2 w2 ho2 hb2 hg2 hat2; have n0 := Aside0.mk ho2; have n1 := Aside0.mk (HS.out.kept hg2 (Kd.R_notset_own HO.out HS.out)); have n2 := Aside0.mk hb2; have n3 := Aside0.mk (blk_grown HK.out hg2 (Kd.R_ne HO.out HK.out (by decide))); clear HO HS HB HK ho2 hb2 hg2 hat2; have HO := n0; have HS := n1; have HB := n2; have HK := n3; clear n0 n1 n2 n3))
          go_roundw
          case measure => simp [intOf]; omega
          case rel => exact ⟨m + 1, by omega, by go_num, ⟨by rw [HT.out, HST.out]; exact HO.out⟩, ⟨by rw [HT.out, HST.out]; exact HS.out.congr (fun y => by by_cases e : y = b <;> simp [e])⟩, HB, HK⟩
      · have t0 : decide (0 ≤ b) = true := decide_eq_true q0
        have t1 : decide (b < (l0_4.length : Int)) = false := decide_eq_false q1
        have hst : stepN l0_4.length (nextL l0_4.length (bs.take m)) b = nextL l0_4.length (bs.take m) := by unfold stepN; rw [if_neg (fun h => q1 h.2.1)]
        have HST := Aside0.mk hst
        clear hst hz
        go_wp2
        go_roundw
        case measure => simp [intOf]; omega
        case rel => exact ⟨m + 1, by omega, by go_num, ⟨by rw [HT.out, HST.out]; exact HO.out⟩, ⟨by rw [HT.out, HST.out]; exact HS.out.mono (by omega)⟩, HB, HK⟩
    · have t0 : decide (0 ≤ b) = false := decide_eq_false q0
      have hst : stepN l0_4.length (nextL l0_4.length (bs.take m)) b = nextL l0_4.length (bs.take m) := by unfold stepN; rw [if_neg (fun h => q0 h.1)]
      have HST := Aside0.mk hst
      clear hst hz
      go_wp2
      go_roundw
      case measure => simp [intOf]; omega
      case rel => exact ⟨m + 1, by omega, by go_num, ⟨by rw [HT.out, HST.out]; exact HO.out⟩, ⟨by rw [HT.out, HST.out]; exact HS.out.mono (by omega)⟩, HB, HK⟩
  · go_wp2
    go_ret
    have e : bs.take m = bs := List.take_of_length_le (by omega)
    rw [e] at HO
    exact ⟨_, rfl, HO.out, HB.out⟩
theorem impl_NextBlocks.calls (a0_0 : ByteArray) (a0_1 : Int) (A0_2 : Option Addr) (c0_2 : Nat) (l0_2 : List Int) (a0_3 : Int) (A0_4 : Option Addr) (c0_4 : Nat) (l0_4 : List (S62)) (a1 : Int) (r : List Int) (w : World) (hr0_2 : Kd.C (Kd.int .i64) w A0_2 l0_2.length l0_2) (hc0_2 : l0_2.length ≤ c0_2) (hr0_4 : Kd.C k62 w A0_4 l0_4.length l0_4) (hc0_4 : l0_4.length ≤ c0_4) (h : impl_NextBlocks.f a0_0 a0_1 l0_2 a0_3 l0_4 a1 = some r) :
 Calls Try.prog 18 #[.agg #[.string a0_0, .int .i64 a0_1, .slice A0_2 l0_2.length c0_2, .int .i64 a0_3, .slice A0_4 l0_4.length c0_4], .int .i64 a1] w fun e w' => ∃ v0_ : Value, e = .returned (v0_) ∧ Kd.R (Kd.int .i64) 2 w' w.heap.size (fun _ => True) v0_ r ∧ Below w.heap.size w w' := by
 unfold impl_NextBlocks.f at h
 have hnil : ∀ (hn : a1 < 0 ∨ (l0_4.length : Int) ≤ a1 ∨ (rd_T62 l0_4 a1).f0.length = 0), r = [] → Calls Try.prog 18 #[.agg #[.string a0_0, .int .i64 a0_1, .slice A0_2 l0_2.length c0_2, .int .i64 a0_3, .slice A0_4 l0_4.length c0_4], .int .i64 a1] w fun e w' => ∃ v0_ : Value, e = .returned (v0_) ∧ Kd.R (Kd.int .i64) 2 w' w.heap.size (fun _ => True) v0_ r ∧ Below w.heap.size w w' := by
  rintro hn rfl
  exact (impl_NextBlocks.none_ a0_0 a0_1 A0_2 c0_2 l0_2 a0_3 A0_4 c0_4 l0_4 a1 w hr0_4 hn).mono fun e w' ⟨he, hb⟩ => ⟨_, he, Kd.R_nil _ _ _ _ _, hb⟩
 by_cases h1 : a1 < 0
 · rw [if_pos h1] at h
   exact hnil (.inl h1) (Option.some.inj h).symm
 rw [if_neg h1] at h
 by_cases h2 : (l0_4.length : Int) ≤ a1
 · rw [if_pos h2] at h
   exact hnil (.inr (.inl h2)) (Option.some.inj h).symm
 rw [if_neg h2] at h
 by_cases h3 : (rd_T62 l0_4 a1).f0.length = 0
 · rw [if_pos h3] at h
   exact hnil (.inr (.inr h3)) (Option.some.inj h).symm
 rw [if_neg h3] at h
 split at h
 · rename_i hb
   obtain rfl := Option.some.inj h
   exact impl_NextBlocks.some_ a0_0 a0_1 A0_2 c0_2 l0_2 a0_3 A0_4 c0_4 l0_4 a1 w hr0_4 (by omega) (by omega) _ rfl (by omega) _ rfl hb.1 hb.2.1 hb.2.2
 · cases h

end Go.Proofs.Ytoedcnhgobbnfaa.All

