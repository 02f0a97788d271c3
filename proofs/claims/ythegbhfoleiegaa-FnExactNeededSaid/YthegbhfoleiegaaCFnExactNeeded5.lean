/- Part 5 of the proof of FnExactNeeded: functions of the translation with what they return, and plain laws of these. Written by programs of this session over the kit's print, and by hand. -/
import Derived.Test.YthegbhfoleiegaaProg
import Derived.Test.YthegbhfoleiegaaCFnExactNeededWApart
import Derived.Test.YthegbhfoleiegaaCFnExactNeededWArr
import Derived.Test.YthegbhfoleiegaaCFnExactNeededWEqStruct
import Derived.Test.YthegbhfoleiegaaCFnExactNeededWFoot
import Derived.Test.YthegbhfoleiegaaCFnExactNeededWGuard
import Derived.Test.YthegbhfoleiegaaCFnExactNeededWKept
import Derived.Test.YthegbhfoleiegaaCFnExactNeededWLast
import Derived.Test.YthegbhfoleiegaaCFnExactNeededWMore
import Derived.Test.YthegbhfoleiegaaCFnExactNeededWN
import Derived.Test.YthegbhfoleiegaaCFnExactNeededWNEv
import Derived.Test.YthegbhfoleiegaaCFnExactNeededWQPut
import Derived.Test.YthegbhfoleiegaaCFnExactNeededWRepsOne
import Derived.Test.YthegbhfoleiegaaCFnExactNeededWShare
import Derived.Test.YthegbhfoleiegaaCFnExactNeededWTab
import Derived.Test.YthegbhfoleiegaaCFnExactNeededWWords
import Derived.Test.YthegbhfoleiegaaCFnExactNeededWZeros
import Derived.Below
import Derived.Deep.Draws
import Derived.Deep.AppendLies
import Derived.Maps.AppendAt
import Derived.OwnWalk
import Derived.Laws.BytesArg
import Derived.Laws.MakeOwn
import Derived.Laws.OwnMore
import Derived.Deep.OwnRows
import Derived.Tactics
import Derived.Lib.ConvBytes
import Derived.Laws.Slices
import Derived.WalkKit
import Derived.KernelRfl
import Derived.RowKit3
import Derived.Deep.LoopGhost
import Derived.Deep.QuietTactic
import Derived.BigQuiet
import Derived.WideLaws
import Derived.Deep.DeepCutAuto
import Derived.Deep.CutBlock
import Derived.Deep.RegionHeld3
import Derived.Laws.Rows
import Derived.Lib.AppendStr
import Derived.ArgAppend
import Derived.Laws.IdiomCopy
import Derived.OrdersHeld
import Derived.Laws.BitsLemmas
import Derived.RowKit
import Derived.Laws.ResultCell
import Derived.Maps.OwnSet
import Derived.Maps.OwnOps
import Derived.DeepKeys4
import Derived.Deep.Slices
import Derived.ChangeArms
import Derived.ProofKit
import Derived.OpenShut
import Derived.ShutString
import Derived.ChangeOld
import Derived.SizedLaws
import Derived.Test.YthegbhfoleiegaaCFnExactNeeded1
import Derived.Test.YthegbhfoleiegaaCFnExactNeeded2
import Derived.Test.YthegbhfoleiegaaCFnExactNeeded3
import Derived.Test.YthegbhfoleiegaaCFnExactNeeded4
namespace Go.Proofs.Ythegbhfoleiegaa.All
open Go.RowKit Go.Proofs.YthegbhfoleiegaaW.PrintWords Go.Proofs.YthegbhfoleiegaaW.PrintLast Go.Proofs.YthegbhfoleiegaaW.PrintMore
attribute [local go_sem] max2_int min2_int max_two min_two max_three min_three max_four min_four   -- for this text's walks alone
set_option linter.unusedVariables false
set_option linter.unusedSimpArgs false

/-! ### laws_markPlaceS: function 40 -/
def laws_markPlaceS.l0 : Nat → List (S125) → Int → Int → Option (Int × (List (S125)))
 | 0, _, _, _ => none
 | k + 1, x0, x1, x5 => if x5 < (x0.length : Int) then (if 0 ≤ x5 then ((some (x0.set (x5 : Int).toNat (⟨x1, (rd_T125 x0 x5).f1⟩ : S125) : List (S125))).bind fun y682 => (laws_markPlaceS.l0 k (y682.set (x5 : Int).toNat (⟨(rd_T125 y682 x5).f0, wrap64 (x1 + 1)⟩ : S125)) (wrap64 ((wrap64 (x1 + 1)) + 1)) (wrap64 (x5 + 1)))) else (none)) else (some (x1, x0))
def laws_markPlaceS.f (k : Nat) (l0 : List (S125)) (a1 : Int) : Option (Int × (List (S125))) := laws_markPlaceS.l0 k l0 a1 0
set_option maxHeartbeats 8000000 in
set_option maxRecDepth 100000 in
theorem laws_markPlaceS.calls (k : Nat) (P0_ : Nat → Prop) (u9000_ : Value) (l0 : List (S125)) (a1 : Int) (r1 : Int) (r2 : List (S125)) (w0 w : World) (hB : Below w0.heap.size w0 w) (ho0 : Kd.R k125 125 w w0.heap.size P0_ u9000_ l0) (h : laws_markPlaceS.f k l0 a1 = some (r1, r2)) :
 Calls Try.prog 40 #[u9000_, .int .i64 a1] w fun e w' => e = .returned (.int .i64 r1) ∧ Kd.R k125 125 w' w0.heap.size (fun k_ => (P0_ k_ ∨ w.heap.size ≤ k_)) u9000_ r2 ∧ Below w0.heap.size w0 w' ∧ Kept w w' (fun k_ => P0_ k_) := by
 have HO0 := Aside0.mk (show Kd.R k125 125 w w0.heap.size (fun k_ => (P0_ k_ ∨ w.heap.size ≤ k_)) u9000_ l0 from Kd.R_mono ho0 (fun k_ hk => (.inl hk)))
 have HK := Aside0.mk (Kept.refl w (fun k_ => P0_ k_))
 have HW0 := Aside0.mk hB.size
 have HB := Aside0.mk hB
 clear hB
 have H : (laws_markPlaceS.l0 k l0 a1 0) = some (r1, r2) := h
 clear h
 have H' := Aside0.mk H
 clear H
 go_enter Try.func40, Try.ntmps40
 go_wp2
 go_loopg [1, 5] k (fun kq v1 v5 w' => ∃ (x0_1 : List (S125)) (x1_1 : Int) (x5_1 : Int), v1 = .int .i64 x1_1 ∧ v5 = .int .i64 x5_1 ∧ Aside0 (laws_markPlaceS.l0 kq x0_1 x1_1 x5_1 = some (r1, r2)) ∧ Aside0 (kq ≤ k) ∧ Aside0 (Kd.R k125 125 w' w0.heap.size (fun k_ => (P0_ k_ ∨ w.heap.size ≤ k_)) u9000_ x0_1) ∧ Aside0 (Kept w w' (fun k_ => P0_ k_)) ∧ Aside0 (Below w0.heap.size w0 w'))
 case atStart => exact ⟨(l0), (a1), (0), (by first | rfl | (simp; done) | (simp [*]; done)), (by first | rfl | (simp; done) | (simp [*]; done)), H', ⟨Nat.le_refl _⟩, ⟨by (with_reducible repeat (first | apply Kd.R_alloc | apply Kd.R_drewN | apply Kd.R_drew)); exact HO0.out⟩, ⟨by repeat (first | (with_reducible first | exact HK.out | apply Kept.alloc | apply Kept.drewN | apply Kept.drew) | exact HK.out)⟩, ⟨by repeat (first | (with_reducible first | exact HB.out | apply below_alloc | apply pw_below_drewN | apply below_drew1) | exact HB.out)⟩⟩
 case round =>
  clear H'
  try clear p2
  obtain ⟨x0_1, x1_1, x5_1, rfl, rfl, HA, HK1, HO_0, HK, HB⟩ := hrel
  cases gk with
  | zero => exact absurd HA.out (by simp [laws_markPlaceS.l0])
  | succ k1 =>
   have H := HA.out
   clear HA
   simp only [laws_markPlaceS.l0] at H
   by_cases c3 : x5_1 < (x0_1.length : Int)
   · rw [if_pos c3] at H
     have c3b0 : decide (x5_1 < (x0_1.length : Int)) = true := decide_eq_true c3
     clear c3
     by_cases c4 : 0 ≤ x5_1
     · rw [if_pos c4] at H
       have c4b0 : decide (0 ≤ x5_1) = true := decide_eq_true c4
       clear c4
       obtain ⟨y682, hy682⟩ : ∃ y_ : List (S125), y_ = (x0_1.set (x5_1 : Int).toNat (⟨x1_1, (rd_T125 x0_1 x5_1).f1⟩ : S125)) := ⟨_, rfl⟩
       replace H : (laws_markPlaceS.l0 k1 (y682.set (x5_1 : Int).toNat (⟨(rd_T125 y682 x5_1).f0, wrap64 (x1_1 + 1)⟩ : S125)) (wrap64 ((wrap64 (x1_1 + 1)) + 1)) (wrap64 (x5_1 + 1))) = some (r1, r2) := by first | (rw [hy682]; with_reducible exact H) | (have H2_ := (Option.bind_some _ _).symm.trans H; rw [hy682]; with_reducible exact H2_) | (have H2_ := (Option.bind_some _ _).symm.trans H; with_reducible exact H2_) | with_reducible exact H | (rw [hy682]; exact H) | exact H
       have Ny682 := Aside0.mk hy682
       clear hy682
       obtain ⟨y683, hy683⟩ : ∃ y_ : List (S125), y_ = (y682.set (x5_1 : Int).toNat (⟨(rd_T125 y682 x5_1).f0, wrap64 (x1_1 + 1)⟩ : S125)) := ⟨_, rfl⟩
       replace H : (laws_markPlaceS.l0 k1 y683 (wrap64 ((wrap64 (x1_1 + 1)) + 1)) (wrap64 (x5_1 + 1))) = some (r1, r2) := by first | (rw [hy683]; with_reducible exact H) | (have H2_ := (Option.bind_some _ _).symm.trans H; rw [hy683]; with_reducible exact H2_) | (have H2_ := (Option.bind_some _ _).symm.trans H; with_reducible exact H2_) | with_reducible exact H | (rw [hy683]; exact H) | exact H
       have Ny683 := Aside0.mk hy683
       clear hy683
       have H' := Aside0.mk H
       clear H
       obtain ⟨Ao7, co7, eo7⟩ := Kd.R_slice HO_0.out
       subst eo7
       have p5 : 0 ≤ (x5_1 : Int) := of_decide_eq_true (by first | (with_reducible assumption) | assumption)
       have q5 : (x5_1 : Int) < ((x0_1.length : Int) : Int) := of_decide_eq_true (by first | (with_reducible assumption) | assumption)
       obtain ⟨go5, co5, eo5, gb5, gl5, cl5, HG5⟩ := Kd.R_form HO_0.out (by omega)
       (first | cases eo5 | (injection eo5 with ea_ en_ ec_; (first | subst ea_ | (injection ea_ with ea_; subst ea_)); subst ec_; clear en_))
       have GB5 := Aside0.mk gb5
       have GG5 := Aside0.mk HG5
       clear gb5 gl5 HG5
       have HMgo5 := Aside0.mk (show (P0_ go5 ∨ w.heap.size ≤ go5) from (HO_0.out.1 _ rfl))
       obtain ⟨ce5, hcl5, hM5, hcc5, hfr5⟩ := Kd.R_elem HO_0.out z125 (x5_1 : Int) p5 q5
       obtain rfl := k125_openM hM5
       have hx5_0 : wr.cell? ⟨go5, (x5_1 : Int).toNat * 2, none⟩ = some (.int .i64 ((rd_T125 x0_1 x5_1).f0)) := hcc5 0 _ rfl
       have hx5_1 : wr.cell? ⟨go5, (x5_1 : Int).toNat * 2 + 1, none⟩ = some (.int .i64 ((rd_T125 x0_1 x5_1).f1)) := hcc5 1 _ rfl
       have hf5_0 : wr.frozen? ⟨go5, (x5_1 : Int).toNat * 2, none⟩ = false := hfr5 0
       have hf5_1 : wr.frozen? ⟨go5, (x5_1 : Int).toNat * 2 + 1, none⟩ = false := hfr5 1
       clear hcl5 hcc5 hfr5 hM5
       replace p5 := eq_true p5
       replace q5 := eq_true q5
       have HX8 := Aside0.mk (show Kd.R k125 125 wr w0.heap.size (fun k_ => (P0_ k_ ∨ w.heap.size ≤ k_)) (.slice (some ⟨go5, 0, none⟩) x0_1.length co7) x0_1 from (by (with_reducible repeat (first | apply Kd.R_alloc | apply Kd.R_drewN | apply Kd.R_drew)); exact HO_0.out))
       obtain ⟨ce8, hcl8, hM8, hcc8, hfr8⟩ := Kd.R_elem HX8.out z125 (x5_1 : Int) (of_decide_eq_true (by first | (with_reducible assumption) | assumption)) (by have h_ : (x5_1 : Int) < ((x0_1.length : Int) : Int) := of_decide_eq_true (by first | (with_reducible assumption) | assumption); first | exact h_ | (have e_ := (Kd.R_reads' HO_0.out).1; omega) | simpa using h_)
       obtain rfl := k125_openM hM8
       have HP8 := Kd.R_seg HX8.out (x5_1 : Int) (of_decide_eq_true (by first | (with_reducible assumption) | assumption)) (by have h_ : (x5_1 : Int) < ((x0_1.length : Int) : Int) := of_decide_eq_true (by first | (with_reducible assumption) | assumption); first | exact h_ | (have e_ := (Kd.R_reads' HO_0.out).1; omega) | simpa using h_) (seg := [.int .i64 x1_1]) (j := 0) hcl8 hcc8 (show 1 ≤ 2 from by decide) (x' := (⟨x1_1, (rd_T125 x0_1 x5_1).f1⟩ : S125)) (k125_mkM _ _ _ (⟨x1_1, (rd_T125 x0_1 x5_1).f1⟩ : S125) ) (fun _ hk => hk)
       have hx8_0 := hcc8 0 _ rfl
       (try simp only [show (k125).sz = 2 from rfl, Nat.mul_one, Nat.add_zero] at hx8_0)
       have hf8_0 := hfr8 0
       (try simp only [show (k125).sz = 2 from rfl, Nat.mul_one, Nat.add_zero] at hf8_0)
       clear hcl8 hcc8 hfr8 hM8
       go_wp2_with (first | ((with_reducible refine gate_store (t := 2) (p := 16) rfl ?_); refine store_event (t := 2) (p := 16) (v := ?vo_w9) (w1 := (wr.setCell ⟨go5, (x5_1 : Int).toNat * 2, none⟩ (.int .i64 x1_1))) ?hg ?ho ?hn ?hr ?_; (case ho => rfl); (case hg => rfl); (case hn => rfl); (case hr => first | (go_simp; done) | (go_simp; rfl)); intro w9 hw; have hg : wr.grownBy w9 (some go5) := (by rw [hw]; exact HP8.2); have hp_ : Kd.R k125 125 w9 w0.heap.size (fun k_ => (P0_ k_ ∨ w.heap.size ≤ k_)) (.slice (some ⟨go5, 0, none⟩) x0_1.length co7) y682 := (by rw [hw, Ny682.out]; exact HP8.1); clear HP8; have n0_ := Aside0.mk (hp_); have n1_ := Aside0.mk ((by rw [hw]; exact below_set (HB.out) GB5.out : Below w0.heap.size w0 w9)); have n2_ := Aside0.mk (Kept.of_grown (S := (fun k_ => P0_ k_)) hg (by repeat (first | (with_reducible first | exact HK.out | apply Kept.alloc | apply Kept.drewN | apply Kept.drew) | exact HK.out)) (fun k_ e_ => (HO_0.out.1 k_ e_))); clear HO_0; clear HB; clear HK; have HO_0 := n0_; have HB := n1_; have HK := n2_; clear n0_ n1_ n2_; clear hg hw hp_; have p6 : 0 ≤ (x5_1 : Int) := of_decide_eq_true (by first | (with_reducible assumption) | assumption); have q6 : (x5_1 : Int) < ((x0_1.length : Int) : Int) := of_decide_eq_true (by first | (with_reducible assumption) | assumption); obtain ⟨ce6, hcl6, hM6, hcc6, hfr6⟩ := Kd.R_elem HO_0.out z125 (x5_1 : Int) p6 q6; obtain rfl := k125_openM hM6; have hx6_0 : w9.cell? ⟨go5, (x5_1 : Int).toNat * 2, none⟩ = some (.int .i64 ((rd_T125 y682 x5_1).f0)) := hcc6 0 _ rfl; have hx6_1 : w9.cell? ⟨go5, (x5_1 : Int).toNat * 2 + 1, none⟩ = some (.int .i64 ((rd_T125 y682 x5_1).f1)) := hcc6 1 _ rfl; have hf6_0 : w9.frozen? ⟨go5, (x5_1 : Int).toNat * 2, none⟩ = false := hfr6 0; have hf6_1 : w9.frozen? ⟨go5, (x5_1 : Int).toNat * 2 + 1, none⟩ = false := hfr6 1; clear hcl6 hcc6 hfr6 hM6; replace p6 := eq_true p6; replace q6 := eq_true q6; have HX10 := Aside0.mk (show Kd.R k125 125 w9 w0.heap.size (fun k_ => (P0_ k_ ∨ w.heap.size ≤ k_)) (.slice (some ⟨go5, 0, none⟩) x0_1.length co7) y682 from (by (with_reducible repeat (first | apply Kd.R_alloc | apply Kd.R_drewN | apply Kd.R_drew)); exact HO_0.out)); obtain ⟨ce10, hcl10, hM10, hcc10, hfr10⟩ := Kd.R_elem HX10.out z125 (x5_1 : Int) (of_decide_eq_true (by first | (with_reducible assumption) | assumption)) (by have h_ : (x5_1 : Int) < ((x0_1.length : Int) : Int) := of_decide_eq_true (by first | (with_reducible assumption) | assumption); first | exact h_ | (have e_ := (Kd.R_reads' HO_0.out).1; omega) | simpa using h_); obtain rfl := k125_openM hM10; have HP10 := Kd.R_seg HX10.out (x5_1 : Int) (of_decide_eq_true (by first | (with_reducible assumption) | assumption)) (by have h_ : (x5_1 : Int) < ((x0_1.length : Int) : Int) := of_decide_eq_true (by first | (with_reducible assumption) | assumption); first | exact h_ | (have e_ := (Kd.R_reads' HO_0.out).1; omega) | simpa using h_) (seg := [.int .i64 (wrap64 (x1_1 + 1))]) (j := 1) hcl10 hcc10 (show 2 ≤ 2 from by decide) (x' := (⟨(rd_T125 y682 x5_1).f0, wrap64 (x1_1 + 1)⟩ : S125)) (k125_mkM _ _ _ (⟨(rd_T125 y682 x5_1).f0, wrap64 (x1_1 + 1)⟩ : S125) ) (fun _ hk => hk); have hx10_1 := hcc10 1 _ rfl; (try simp only [show (k125).sz = 2 from rfl, Nat.mul_one, Nat.add_zero] at hx10_1); have hf10_1 := hfr10 1; (try simp only [show (k125).sz = 2 from rfl, Nat.mul_one, Nat.add_zero] at hf10_1); clear hcl10 hcc10 hfr10 hM10) | ((with_reducible refine gate_store (t := 2) (p := 23) rfl ?_); refine store_event (t := 2) (p := 23) (v := ?vo_w11) (w1 := (w9.setCell ⟨go5, (x5_1 : Int).toNat * 2 + 1, none⟩ (.int .i64 (wrap64 (x1_1 + 1))))) ?hg ?ho ?hn ?hr ?_; (case ho => rfl); (case hg => rfl); (case hn => rfl); (case hr => first | (go_simp; done) | (go_simp; rfl)); intro w11 hw; have hg : w9.grownBy w11 (some go5) := (by rw [hw]; exact HP10.2); have hp_ : Kd.R k125 125 w11 w0.heap.size (fun k_ => (P0_ k_ ∨ w.heap.size ≤ k_)) (.slice (some ⟨go5, 0, none⟩) x0_1.length co7) y683 := (by rw [hw, Ny683.out]; exact HP10.1); clear HP10; have n0_ := Aside0.mk (hp_); have n1_ := Aside0.mk ((by rw [hw]; exact below_set (HB.out) GB5.out : Below w0.heap.size w0 w11)); have n2_ := Aside0.mk (Kept.of_grown (S := (fun k_ => P0_ k_)) hg (by repeat (first | (with_reducible first | exact HK.out | apply Kept.alloc | apply Kept.drewN | apply Kept.drew) | exact HK.out)) (fun k_ e_ => (HO_0.out.1 k_ e_))); clear HO_0; clear HB; clear HK; have HO_0 := n0_; have HB := n1_; have HK := n2_; clear n0_ n1_ n2_; clear hg hw hp_))
       go_roundg k1
       case measure => have := HK1.out; omega
       case rel => exact ⟨(y683), (wrap64 ((wrap64 (x1_1 + 1)) + 1)), (wrap64 (x5_1 + 1)), (by first | rfl | (simp; done) | (simp [*]; done)), (by first | rfl | (simp; done) | (simp [*]; done)), H', ⟨by have := HK1.out; omega⟩, ⟨by (with_reducible repeat (first | apply Kd.R_alloc | apply Kd.R_drewN | apply Kd.R_drew)); exact HO_0.out⟩, ⟨by repeat (first | (with_reducible first | exact HK.out | apply Kept.alloc | apply Kept.drewN | apply Kept.drew) | exact HK.out)⟩, ⟨by repeat (first | (with_reducible first | exact HB.out | apply below_alloc | apply pw_below_drewN | apply below_drew1) | exact HB.out)⟩⟩
     · rw [if_neg c4] at H
       exact absurd H (by simp)
   · rw [if_neg c3] at H
     have c3b0 : decide (x5_1 < (x0_1.length : Int)) = false := decide_eq_false c3
     clear c3
     simp only [Option.some.injEq, Prod.mk.injEq] at H
     obtain ⟨rfl, rfl⟩ := H
     obtain ⟨Ao12, co12, eo12⟩ := Kd.R_slice HO_0.out
     subst eo12
     go_wp2
     go_ret
     exact ⟨by first | rfl | (simp [errW_none, errW_some] <;> rfl) | (simp [*, errW_none, errW_some] <;> rfl), by (with_reducible repeat (first | apply Kd.R_alloc | apply Kd.R_drewN | apply Kd.R_drew)); exact HO_0.out, by repeat (first | (with_reducible first | exact HB.out | apply below_alloc | apply pw_below_drewN | apply below_drew1) | exact HB.out), by repeat (first | (with_reducible first | exact HK.out | apply Kept.alloc | apply Kept.drewN | apply Kept.drew) | exact HK.out)⟩

end Go.Proofs.Ythegbhfoleiegaa.All


namespace Go.Proofs.Ythegbhfoleiegaa.All
open Go.RowKit Go.Proofs.YthegbhfoleiegaaW.PrintWords Go.Proofs.YthegbhfoleiegaaW.PrintLast Go.Proofs.YthegbhfoleiegaaW.PrintMore
attribute [local go_sem] max2_int min2_int max_two min_two max_three min_three max_four min_four   -- for this text's walks alone
set_option linter.unusedVariables false
set_option linter.unusedSimpArgs false

/-! ### laws_heldPlaceS: function 41 -/
def laws_heldPlaceS.l0 : Nat → List (S125) → Int → Int → Option (Int)
 | 0, _, _, _ => none
 | k + 1, x0, x1, x5 => if x5 < (x0.length : Int) then (if 0 ≤ x5 then (if ((rd_T125 x0 x5).f0) = x1 then (if ((rd_T125 x0 x5).f1) = (wrap64 (x1 + 1)) then (laws_heldPlaceS.l0 k x0 (wrap64 ((wrap64 (x1 + 1)) + 1)) (wrap64 (x5 + 1))) else (some (-1))) else (some (-1))) else (none)) else (some x1)
def laws_heldPlaceS.f (k : Nat) (l0 : List (S125)) (a1 : Int) : Option (Int) := laws_heldPlaceS.l0 k l0 a1 0
set_option maxHeartbeats 8000000 in
set_option maxRecDepth 100000 in
theorem laws_heldPlaceS.calls (k : Nat) (A0 : Option Addr) (c0 : Nat) (l0 : List (S125)) (a1 : Int) (r : Int) (w : World) (hr0 : Kd.C k125 w A0 l0.length l0) (hc0 : l0.length ≤ c0) (h : laws_heldPlaceS.f k l0 a1 = some r) :
 Calls Try.prog 41 #[.slice A0 l0.length c0, .int .i64 a1] w fun e w' => e = .returned (.int .i64 r) ∧ Drawn0 w w' := by
 have HR0 := Aside0.mk hr0
 have HC0 := Aside0.mk hc0
 clear hr0 hc0
 have H : (laws_heldPlaceS.l0 k l0 a1 0) = some r := h
 clear h
 have H' := Aside0.mk H
 clear H
 go_enter Try.func41, Try.ntmps41
 go_wp2
 go_loopg [1, 5] k (fun kq v1 v5 w' => ∃ (x1_1 : Int) (x5_1 : Int), v1 = .int .i64 x1_1 ∧ v5 = .int .i64 x5_1 ∧ Aside0 (laws_heldPlaceS.l0 kq l0 x1_1 x5_1 = some r) ∧ Aside0 (kq ≤ k) ∧ Drawn0 w w')
 case atStart => exact ⟨(a1), (0), (by first | rfl | (simp; done) | (simp [*]; done)), (by first | rfl | (simp; done) | (simp [*]; done)), H', ⟨Nat.le_refl _⟩, by repeat (first | exact Drawn0.refl _ | apply Drawn0.step)⟩
 case round =>
  clear H'
  try clear p2
  obtain ⟨x1_1, x5_1, rfl, rfl, HA, HK1, ⟨m1, rfl⟩⟩ := hrel
  cases gk with
  | zero => exact absurd HA.out (by simp [laws_heldPlaceS.l0])
  | succ k1 =>
   have H := HA.out
   clear HA
   simp only [laws_heldPlaceS.l0] at H
   by_cases c3 : x5_1 < (l0.length : Int)
   · rw [if_pos c3] at H
     have c3b0 : decide (x5_1 < (l0.length : Int)) = true := decide_eq_true c3
     clear c3
     by_cases c4 : 0 ≤ x5_1
     · rw [if_pos c4] at H
       have c4b0 : decide (0 ≤ x5_1) = true := decide_eq_true c4
       clear c4
       by_cases c5 : ((rd_T125 l0 x5_1).f0) = x1_1
       · rw [if_pos c5] at H
         have c5b0 : (((rd_T125 l0 x5_1).f0) == x1_1) = true := beq_iff_eq.mpr c5
         have c5b1 : (((rd_T125 l0 x5_1).f0) != x1_1) = false := bne_eq_false_iff_eq.mpr c5
         clear c5
         by_cases c6 : ((rd_T125 l0 x5_1).f1) = (wrap64 (x1_1 + 1))
         · rw [if_pos c6] at H
           have c6b0 : (((rd_T125 l0 x5_1).f1) == (wrap64 (x1_1 + 1))) = true := beq_iff_eq.mpr c6
           have c6b1 : (((rd_T125 l0 x5_1).f1) != (wrap64 (x1_1 + 1))) = false := bne_eq_false_iff_eq.mpr c6
           clear c6
           have H' := Aside0.mk H
           clear H
           have p684 : 0 ≤ (x5_1 : Int) := of_decide_eq_true (by first | (with_reducible assumption) | assumption)
           have q684 : x5_1 < (l0.length : Int) := of_decide_eq_true (by first | (with_reducible assumption) | assumption)
           obtain ⟨ad684, e684, hx684_0, hx684_1⟩ := at_T125 HR0.out x5_1 p684 q684
           cases e684
           replace p684 := eq_true p684
           replace q684 := eq_true q684
           have p685 : 0 ≤ (x5_1 : Int) := of_decide_eq_true (by first | (with_reducible assumption) | assumption)
           have q685 : x5_1 < (l0.length : Int) := of_decide_eq_true (by first | (with_reducible assumption) | assumption)
           obtain ⟨ad685, e685, hx685_0, hx685_1⟩ := at_T125 HR0.out x5_1 p685 q685
           obtain rfl : ad684 = ad685 := (by injection e685)
           replace p685 := eq_true p685
           replace q685 := eq_true q685
           go_wp2
           go_roundg k1
           case measure => have := HK1.out; omega
           case rel => exact ⟨(wrap64 ((wrap64 (x1_1 + 1)) + 1)), (wrap64 (x5_1 + 1)), (by first | rfl | (simp; done) | (simp [*]; done)), (by first | rfl | (simp; done) | (simp [*]; done)), H', ⟨by have := HK1.out; omega⟩, by repeat (first | exact Drawn0.refl _ | apply Drawn0.step)⟩
         · rw [if_neg c6] at H
           have c6b0 : (((rd_T125 l0 x5_1).f1) == (wrap64 (x1_1 + 1))) = false := beq_eq_false_iff_ne.mpr c6
           have c6b1 : (((rd_T125 l0 x5_1).f1) != (wrap64 (x1_1 + 1))) = true := bne_iff_ne.mpr c6
           obtain rfl := Option.some.inj H
           have p684 : 0 ≤ (x5_1 : Int) := of_decide_eq_true (by first | (with_reducible assumption) | assumption)
           have q684 : x5_1 < (l0.length : Int) := of_decide_eq_true (by first | (with_reducible assumption) | assumption)
           obtain ⟨ad684, e684, hx684_0, hx684_1⟩ := at_T125 HR0.out x5_1 p684 q684
           cases e684
           replace p684 := eq_true p684
           replace q684 := eq_true q684
           have p685 : 0 ≤ (x5_1 : Int) := of_decide_eq_true (by first | (with_reducible assumption) | assumption)
           have q685 : x5_1 < (l0.length : Int) := of_decide_eq_true (by first | (with_reducible assumption) | assumption)
           obtain ⟨ad685, e685, hx685_0, hx685_1⟩ := at_T125 HR0.out x5_1 p685 q685
           obtain rfl : ad684 = ad685 := (by injection e685)
           replace p685 := eq_true p685
           replace q685 := eq_true q685
           go_wp2
           go_ret
           exact ⟨by first | rfl | (simp; done) | (simp [*]; done), by repeat (first | exact Drawn0.refl _ | apply Drawn0.step)⟩
       · rw [if_neg c5] at H
         have c5b0 : (((rd_T125 l0 x5_1).f0) == x1_1) = false := beq_eq_false_iff_ne.mpr c5
         have c5b1 : (((rd_T125 l0 x5_1).f0) != x1_1) = true := bne_iff_ne.mpr c5
         obtain rfl := Option.some.inj H
         have p684 : 0 ≤ (x5_1 : Int) := of_decide_eq_true (by first | (with_reducible assumption) | assumption)
         have q684 : x5_1 < (l0.length : Int) := of_decide_eq_true (by first | (with_reducible assumption) | assumption)
         obtain ⟨ad684, e684, hx684_0, hx684_1⟩ := at_T125 HR0.out x5_1 p684 q684
         cases e684
         replace p684 := eq_true p684
         replace q684 := eq_true q684
         go_wp2
         go_ret
         exact ⟨by first | rfl | (simp; done) | (simp [*]; done), by repeat (first | exact Drawn0.refl _ | apply Drawn0.step)⟩
     · rw [if_neg c4] at H
       exact absurd H (by simp)
   · rw [if_neg c3] at H
     have c3b0 : decide (x5_1 < (l0.length : Int)) = false := decide_eq_false c3
     clear c3
     obtain rfl := Option.some.inj H
     go_wp2
     go_ret
     exact ⟨by first | rfl | (simp; done) | (simp [*]; done), by repeat (first | exact Drawn0.refl _ | apply Drawn0.step)⟩

end Go.Proofs.Ythegbhfoleiegaa.All


namespace Go.Proofs.Ythegbhfoleiegaa.All
open Go.RowKit Go.Proofs.YthegbhfoleiegaaW.PrintWords Go.Proofs.YthegbhfoleiegaaW.PrintLast Go.Proofs.YthegbhfoleiegaaW.PrintMore
attribute [local go_sem] max2_int min2_int max_two min_two max_three min_three max_four min_four   -- for this text's walks alone
set_option linter.unusedVariables false
set_option linter.unusedSimpArgs false

/-! ### laws_FnExactNeeded: function 7 -/
def laws_FnExactNeeded.j0 : Nat → List (S63) → ByteArray → List (S125) → List (S125) → Bool → Option (Bool)
 | 0, _, _, _, _, _ => none
 | k + 1, x0, x1, x6, x8, x49 => if x49 = true then (some false) else ((laws_markPlaceS.f k x8 1).bind fun bt706 => ((laws_heldPlaceS.f k bt706.2 1).bind fun t708 => (if t708 < 0 then (some false) else (if t708 = bt706.1 then ((laws_toObjectS.f k x0).bind fun t709 => ((impl_Needed.f k t709 x1).bind fun t712 => ((laws_eqPlaceS.f k t712 x6).bind fun t715 => (if t715 = true then ((laws_heldPlaceS.f k bt706.2 1).bind fun t716 => (if t716 < 0 then (some false) else (if t716 = bt706.1 then (some true) else (some false)))) else (some false))))) else (some false)))))
def laws_FnExactNeeded.f (k : Nat) (l0 : List (S63)) (a1 : ByteArray) : Option (Bool) := if (a1.size : Int) > 1048576 then (some true) else ((laws_szObjectS.f k l0 1048576).bind fun t686 => (if t686 < 0 then (some true) else ((laws_toObjectS.f k l0).bind fun t687 => ((spec_Needed.f k t687 a1).bind fun t690 => ((laws_toObjectS.f k l0).bind fun t693 => ((impl_Needed.f k t693 a1).bind fun t696 => ((laws_eqPlaceS.f k t696 t690).bind fun t699 => (if t699 = true then ((laws_toObjectS.f k l0).bind fun t700 => ((laws_eqObjectS.f k t693 t700).bind fun t703 => (if t703 = true then ((laws_markObjectS.f t693 1).bind fun t704 => (if t704 < 0 then (laws_FnExactNeeded.j0 k l0 a1 t690 t696 true) else ((laws_eqPlaceS.f k t696 t690).bind fun t705 => (laws_FnExactNeeded.j0 k l0 a1 t690 t696 (!t705))))) else (some false)))) else (some false)))))))))
set_option maxHeartbeats 8000000 in
set_option maxRecDepth 100000 in
theorem laws_FnExactNeeded.calls (k : Nat) (A0 : Option Addr) (c0 : Nat) (l0 : List (S63)) (a1 : ByteArray) (r : Bool) (w : World) (hr0 : Kd.C k63 w A0 l0.length l0) (hc0 : l0.length ≤ c0) (h : laws_FnExactNeeded.f k l0 a1 = some r) (hr_ : Aside0 (r = true)) :
 Calls Try.prog 7 #[.slice A0 l0.length c0, .string a1] w fun e w' => e = .returned (.bool r) ∧ Below w.heap.size w w' := by
 have HR0 := Aside0.mk hr0
 have HC0 := Aside0.mk hc0
 clear hr0 hc0
 have HB := Aside0.mk (Below.refl w.heap.size w)
 have H : (if (a1.size : Int) > 1048576 then (some true) else ((laws_szObjectS.f k l0 1048576).bind fun t686 => (if t686 < 0 then (some true) else ((laws_toObjectS.f k l0).bind fun t687 => ((spec_Needed.f k t687 a1).bind fun t690 => ((laws_toObjectS.f k l0).bind fun t693 => ((impl_Needed.f k t693 a1).bind fun t696 => ((laws_eqPlaceS.f k t696 t690).bind fun t699 => (if t699 = true then ((laws_toObjectS.f k l0).bind fun t700 => ((laws_eqObjectS.f k t693 t700).bind fun t703 => (if t703 = true then ((laws_markObjectS.f t693 1).bind fun t704 => (if t704 < 0 then (laws_FnExactNeeded.j0 k l0 a1 t690 t696 true) else ((laws_eqPlaceS.f k t696 t690).bind fun t705 => (laws_FnExactNeeded.j0 k l0 a1 t690 t696 (!t705))))) else (some false)))) else (some false)))))))))) = some r := h
 clear h
 by_cases c3 : (a1.size : Int) > 1048576
 · rw [if_pos c3] at H
   have c3b0 : decide (1048576 < (a1.size : Int)) = true := decide_eq_true c3
   have c3b1 : decide (1048576 < a1.size) = true := decide_eq_true (by omega)
   clear c3
   obtain rfl := Option.some.inj H
   go_enter Try.func7, Try.ntmps7
   go_wp2
   go_ret
   exact ⟨by first | rfl | (simp [errW_none, errW_some] <;> rfl) | (simp [*, errW_none, errW_some] <;> rfl), by repeat (first | (with_reducible first | exact HB.out | apply below_alloc | apply pw_below_drewN | apply below_drew1) | exact HB.out)⟩
 · rw [if_neg c3] at H
   have c3b0 : decide (1048576 < (a1.size : Int)) = false := decide_eq_false c3
   have c3b1 : decide (1048576 < a1.size) = false := decide_eq_false (by omega)
   clear c3
   replace H := Option.bind_eq_some_iff.mp H
   obtain ⟨t686, A40, H⟩ := H
   replace H : (if t686 < 0 then (some true) else ((laws_toObjectS.f k l0).bind fun t687 => ((spec_Needed.f k t687 a1).bind fun t690 => ((laws_toObjectS.f k l0).bind fun t693 => ((impl_Needed.f k t693 a1).bind fun t696 => ((laws_eqPlaceS.f k t696 t690).bind fun t699 => (if t699 = true then ((laws_toObjectS.f k l0).bind fun t700 => ((laws_eqObjectS.f k t693 t700).bind fun t703 => (if t703 = true then ((laws_markObjectS.f t693 1).bind fun t704 => (if t704 < 0 then (laws_FnExactNeeded.j0 k l0 a1 t690 t696 true) else ((laws_eqPlaceS.f k t696 t690).bind fun t705 => (laws_FnExactNeeded.j0 k l0 a1 t690 t696 (!t705))))) else (some false)))) else (some false)))))))) = some r := H
   have A4 := Aside0.mk A40
   clear A40
   by_cases c5 : t686 < 0
   · rw [if_pos c5] at H
     have c5b0 : decide (t686 < 0) = true := decide_eq_true c5
     clear c5
     obtain rfl := Option.some.inj H
     go_enter Try.func7, Try.ntmps7
     go_wp2_with (first | ((with_reducible refine gate_callee (f := 33) rfl ?_); refine goesL_ (some 18) rfl rfl Try.func33 (by kernel_rfl) rfl #[.slice A0 l0.length c0, .int .i64 1048576] rfl (by (try simp only [List.map_toArray, List.map_cons, List.map_nil]); first | done | rfl | (simp only [List.length_drop, List.length_take]; rfl)) ?_; (with_reducible refine (laws_szObjectS.calls k _ _ l0 1048576 t686 _ ?side1 ?side2 A4.out).mono ?_); (case side1 => repeat (first | exact HR0.out | (with_reducible refine Kd.C_alloc ?_ _) | (with_reducible refine Kd.C_drewN ?_ _) | (with_reducible refine Kd.C_drew ?_))); (case side2 => exact HC0.out); rintro e w6 ⟨rfl, hb⟩; refine ⟨_, rfl, ?_⟩; have n0_ := Aside0.mk (below_step (by repeat (first | (with_reducible first | exact HB.out | apply below_alloc | apply pw_below_drewN | apply below_drew1) | exact HB.out)) hb); clear HB; have HB := n0_; clear n0_; (try clear hb); (try clear hb2); (try clear hk); (try clear hi)))
     go_ret
     exact ⟨by first | rfl | (simp [errW_none, errW_some] <;> rfl) | (simp [*, errW_none, errW_some] <;> rfl), by repeat (first | (with_reducible first | exact HB.out | apply below_alloc | apply pw_below_drewN | apply below_drew1) | exact HB.out)⟩
   · rw [if_neg c5] at H
     have c5b0 : decide (t686 < 0) = false := decide_eq_false c5
     clear c5
     replace H := Option.bind_eq_some_iff.mp H
     obtain ⟨t687, A70, H⟩ := H
     replace H : ((spec_Needed.f k t687 a1).bind fun t690 => ((laws_toObjectS.f k l0).bind fun t693 => ((impl_Needed.f k t693 a1).bind fun t696 => ((laws_eqPlaceS.f k t696 t690).bind fun t699 => (if t699 = true then ((laws_toObjectS.f k l0).bind fun t700 => ((laws_eqObjectS.f k t693 t700).bind fun t703 => (if t703 = true then ((laws_markObjectS.f t693 1).bind fun t704 => (if t704 < 0 then (laws_FnExactNeeded.j0 k l0 a1 t690 t696 true) else ((laws_eqPlaceS.f k t696 t690).bind fun t705 => (laws_FnExactNeeded.j0 k l0 a1 t690 t696 (!t705))))) else (some false)))) else (some false)))))) = some r := H
     have A7 := Aside0.mk A70
     clear A70
     replace H := Option.bind_eq_some_iff.mp H
     obtain ⟨t690, A80, H⟩ := H
     replace H : ((laws_toObjectS.f k l0).bind fun t693 => ((impl_Needed.f k t693 a1).bind fun t696 => ((laws_eqPlaceS.f k t696 t690).bind fun t699 => (if t699 = true then ((laws_toObjectS.f k l0).bind fun t700 => ((laws_eqObjectS.f k t693 t700).bind fun t703 => (if t703 = true then ((laws_markObjectS.f t693 1).bind fun t704 => (if t704 < 0 then (laws_FnExactNeeded.j0 k l0 a1 t690 t696 true) else ((laws_eqPlaceS.f k t696 t690).bind fun t705 => (laws_FnExactNeeded.j0 k l0 a1 t690 t696 (!t705))))) else (some false)))) else (some false))))) = some r := H
     have A8 := Aside0.mk A80
     clear A80
     replace H := Option.bind_eq_some_iff.mp H
     obtain ⟨t693, A90, H⟩ := H
     replace H : ((impl_Needed.f k t693 a1).bind fun t696 => ((laws_eqPlaceS.f k t696 t690).bind fun t699 => (if t699 = true then ((laws_toObjectS.f k l0).bind fun t700 => ((laws_eqObjectS.f k t693 t700).bind fun t703 => (if t703 = true then ((laws_markObjectS.f t693 1).bind fun t704 => (if t704 < 0 then (laws_FnExactNeeded.j0 k l0 a1 t690 t696 true) else ((laws_eqPlaceS.f k t696 t690).bind fun t705 => (laws_FnExactNeeded.j0 k l0 a1 t690 t696 (!t705))))) else (some false)))) else (some false)))) = some r := H
     have A9 := Aside0.mk A90
     clear A90
     replace H := Option.bind_eq_some_iff.mp H
     obtain ⟨t696, A100, H⟩ := H
     replace H : ((laws_eqPlaceS.f k t696 t690).bind fun t699 => (if t699 = true then ((laws_toObjectS.f k l0).bind fun t700 => ((laws_eqObjectS.f k t693 t700).bind fun t703 => (if t703 = true then ((laws_markObjectS.f t693 1).bind fun t704 => (if t704 < 0 then (laws_FnExactNeeded.j0 k l0 a1 t690 t696 true) else ((laws_eqPlaceS.f k t696 t690).bind fun t705 => (laws_FnExactNeeded.j0 k l0 a1 t690 t696 (!t705))))) else (some false)))) else (some false))) = some r := H
     have A10 := Aside0.mk A100
     clear A100
     replace H := Option.bind_eq_some_iff.mp H
     obtain ⟨t699, A110, H⟩ := H
     replace H : (if t699 = true then ((laws_toObjectS.f k l0).bind fun t700 => ((laws_eqObjectS.f k t693 t700).bind fun t703 => (if t703 = true then ((laws_markObjectS.f t693 1).bind fun t704 => (if t704 < 0 then (laws_FnExactNeeded.j0 k l0 a1 t690 t696 true) else ((laws_eqPlaceS.f k t696 t690).bind fun t705 => (laws_FnExactNeeded.j0 k l0 a1 t690 t696 (!t705))))) else (some false)))) else (some false)) = some r := H
     have A11 := Aside0.mk A110
     clear A110
     by_cases c12 : t699 = true
     · subst c12
       have H1 : ((laws_toObjectS.f k l0).bind fun t700 => ((laws_eqObjectS.f k t693 t700).bind fun t703 => (if t703 = true then ((laws_markObjectS.f t693 1).bind fun t704 => (if t704 < 0 then (laws_FnExactNeeded.j0 k l0 a1 t690 t696 true) else ((laws_eqPlaceS.f k t696 t690).bind fun t705 => (laws_FnExactNeeded.j0 k l0 a1 t690 t696 (!t705))))) else (some false)))) = some r := by rw [if_pos rfl] at H; exact H
       clear H
       have H := H1
       clear H1
       replace H := Option.bind_eq_some_iff.mp H
       obtain ⟨t700, A130, H⟩ := H
       replace H : ((laws_eqObjectS.f k t693 t700).bind fun t703 => (if t703 = true then ((laws_markObjectS.f t693 1).bind fun t704 => (if t704 < 0 then (laws_FnExactNeeded.j0 k l0 a1 t690 t696 true) else ((laws_eqPlaceS.f k t696 t690).bind fun t705 => (laws_FnExactNeeded.j0 k l0 a1 t690 t696 (!t705))))) else (some false))) = some r := H
       have A13 := Aside0.mk A130
       clear A130
       replace H := Option.bind_eq_some_iff.mp H
       obtain ⟨t703, A140, H⟩ := H
       replace H : (if t703 = true then ((laws_markObjectS.f t693 1).bind fun t704 => (if t704 < 0 then (laws_FnExactNeeded.j0 k l0 a1 t690 t696 true) else ((laws_eqPlaceS.f k t696 t690).bind fun t705 => (laws_FnExactNeeded.j0 k l0 a1 t690 t696 (!t705))))) else (some false)) = some r := H
       have A14 := Aside0.mk A140
       clear A140
       by_cases c15 : t703 = true
       · subst c15
         have H1 : ((laws_markObjectS.f t693 1).bind fun t704 => (if t704 < 0 then (laws_FnExactNeeded.j0 k l0 a1 t690 t696 true) else ((laws_eqPlaceS.f k t696 t690).bind fun t705 => (laws_FnExactNeeded.j0 k l0 a1 t690 t696 (!t705))))) = some r := by rw [if_pos rfl] at H; exact H
         clear H
         have H := H1
         clear H1
         replace H := Option.bind_eq_some_iff.mp H
         obtain ⟨t704, A160, H⟩ := H
         replace H : (if t704 < 0 then (laws_FnExactNeeded.j0 k l0 a1 t690 t696 true) else ((laws_eqPlaceS.f k t696 t690).bind fun t705 => (laws_FnExactNeeded.j0 k l0 a1 t690 t696 (!t705)))) = some r := H
         have A16 := Aside0.mk A160
         clear A160
         have HC17 := Aside0.mk H
         clear H
         go_enter Try.func7, Try.ntmps7
         go_upto_region 16 with (first | ((with_reducible refine gate_callee (f := 33) rfl ?_); refine goesL_ (some 18) rfl rfl Try.func33 (by kernel_rfl) rfl #[.slice A0 l0.length c0, .int .i64 1048576] rfl (by (try simp only [List.map_toArray, List.map_cons, List.map_nil]); first | done | rfl | (simp only [List.length_drop, List.length_take]; rfl)) ?_; (with_reducible refine (laws_szObjectS.calls k _ _ l0 1048576 t686 _ ?side1 ?side2 A4.out).mono ?_); (case side1 => repeat (first | exact HR0.out | (with_reducible refine Kd.C_alloc ?_ _) | (with_reducible refine Kd.C_drewN ?_ _) | (with_reducible refine Kd.C_drew ?_))); (case side2 => exact HC0.out); rintro e w18 ⟨rfl, hb⟩; refine ⟨_, rfl, ?_⟩; have n0_ := Aside0.mk (below_step (by repeat (first | (with_reducible first | exact HB.out | apply below_alloc | apply pw_below_drewN | apply below_drew1) | exact HB.out)) hb); clear HB; have HB := n0_; clear n0_; (try clear hb); (try clear hb2); (try clear hk); (try clear hi)) | ((with_reducible refine gate_callee (f := 35) rfl ?_); refine goesL_ (some 22) rfl rfl Try.func35 (by kernel_rfl) rfl #[.slice A0 l0.length c0] rfl (by (try simp only [List.map_toArray, List.map_cons, List.map_nil]); first | done | rfl | (simp only [List.length_drop, List.length_take]; rfl)) ?_; (with_reducible refine (laws_toObjectS.calls k _ _ l0 t687 _ ?side1 ?side2 A7.out).mono ?_); (case side1 => repeat (first | exact (Kd.C_below HR0.out HB.out) | (with_reducible refine Kd.C_alloc ?_ _) | (with_reducible refine Kd.C_drewN ?_ _) | (with_reducible refine Kd.C_drew ?_))); (case side2 => exact HC0.out); rintro e w19 ⟨v688, rfl, ho0, hb⟩; refine ⟨_, rfl, ?_⟩; have n0_ := Aside0.mk (Kd.R_lower ho0 (below_size (by repeat (first | (with_reducible first | exact HB.out | apply below_alloc | apply pw_below_drewN | apply below_drew1) | exact HB.out)))); have n1_ := Aside0.mk (below_step (by repeat (first | (with_reducible first | exact HB.out | apply below_alloc | apply pw_below_drewN | apply below_drew1) | exact HB.out)) hb); clear HB; have HO689 := n0_; have HB := n1_; clear n0_ n1_; (try clear hb); (try clear hb2); (try clear hk); (try clear hi); (try clear ho0); obtain ⟨Ao20, co20, eo20⟩ := Kd.R_slice HO689.out; subst eo20) | ((with_reducible refine gate_callee (f := 34) rfl ?_); refine goesL_ (some 24) rfl rfl Try.func34 (by kernel_rfl) rfl #[.slice Ao20 t687.length co20, .string a1] rfl (by (try simp only [List.map_toArray, List.map_cons, List.map_nil]); first | done | rfl | (simp only [List.length_drop, List.length_take]; rfl)) ?_; (with_reducible refine (spec_Needed.calls k _ _ t687 a1 t690 _ ?side1 ?side2 A8.out).mono ?_); (case side1 => repeat (first | exact (Kd.R_reads' HO689.out).2.2 | (with_reducible refine Kd.C_alloc ?_ _) | (with_reducible refine Kd.C_drewN ?_ _) | (with_reducible refine Kd.C_drew ?_))); (case side2 => exact (Kd.R_reads' HO689.out).2.1); rintro e w21 ⟨v691, rfl, ho0, hb⟩; refine ⟨_, rfl, ?_⟩; have n0_ := Aside0.mk (Kd.R_below (by (with_reducible repeat (first | apply Kd.R_alloc | apply Kd.R_drewN | apply Kd.R_drew)); exact HO689.out) hb); have n1_ := Aside0.mk (Kd.R_lower ho0 (below_size (by repeat (first | (with_reducible first | exact HB.out | apply below_alloc | apply pw_below_drewN | apply below_drew1) | exact HB.out)))); have n2_ := Aside0.mk (below_step (by repeat (first | (with_reducible first | exact HB.out | apply below_alloc | apply pw_below_drewN | apply below_drew1) | exact HB.out)) hb); clear HO689; clear HB; have HO689 := n0_; have HO692 := n1_; have HB := n2_; clear n0_ n1_ n2_; (try clear hb); (try clear hb2); (try clear hk); (try clear hi); (try clear ho0)) | ((with_reducible refine gate_callee (f := 35) rfl ?_); refine goesL_ (some 26) rfl rfl Try.func35 (by kernel_rfl) rfl #[.slice A0 l0.length c0] rfl (by (try simp only [List.map_toArray, List.map_cons, List.map_nil]); first | done | rfl | (simp only [List.length_drop, List.length_take]; rfl)) ?_; (with_reducible refine (laws_toObjectS.calls k _ _ l0 t693 _ ?side1 ?side2 A9.out).mono ?_); (case side1 => repeat (first | exact (Kd.C_below HR0.out HB.out) | (with_reducible refine Kd.C_alloc ?_ _) | (with_reducible refine Kd.C_drewN ?_ _) | (with_reducible refine Kd.C_drew ?_))); (case side2 => exact HC0.out); rintro e w22 ⟨v694, rfl, ho0, hb⟩; refine ⟨_, rfl, ?_⟩; have n0_ := Aside0.mk (Kd.R_elder' (by (with_reducible repeat (first | apply Kd.R_alloc | apply Kd.R_drewN | apply Kd.R_drew)); exact HO689.out) (Kd.R_base ho0) hb); have n1_ := Aside0.mk (Kd.R_below (by (with_reducible repeat (first | apply Kd.R_alloc | apply Kd.R_drewN | apply Kd.R_drew)); exact HO692.out) hb); have n2_ := Aside0.mk (Kd.R_lower (Kd.R_new' ho0 (Kd.R_lt (by (with_reducible repeat (first | apply Kd.R_alloc | apply Kd.R_drewN | apply Kd.R_drew)); exact HO689.out))) (below_size (by repeat (first | (with_reducible first | exact HB.out | apply below_alloc | apply pw_below_drewN | apply below_drew1) | exact HB.out)))); have n3_ := Aside0.mk (below_step (by repeat (first | (with_reducible first | exact HB.out | apply below_alloc | apply pw_below_drewN | apply below_drew1) | exact HB.out)) hb); clear HO689; clear HO692; clear HB; have HO689 := n0_; have HO692 := n1_; have HO695 := n2_; have HB := n3_; clear n0_ n1_ n2_ n3_; (try clear hb); (try clear hb2); (try clear hk); (try clear hi); (try clear ho0); obtain ⟨Ao23, co23, eo23⟩ := Kd.R_slice HO695.out; subst eo23) | ((with_reducible refine gate_callee (f := 36) rfl ?_); refine goesL_ (some 29) rfl rfl Try.func36 (by kernel_rfl) rfl #[.slice Ao23 t693.length co23, .string a1] rfl (by (try simp only [List.map_toArray, List.map_cons, List.map_nil]); first | done | rfl | (simp only [List.length_drop, List.length_take]; rfl)) ?_; (with_reducible refine (impl_Needed.calls k _ _ t693 a1 t696 _ ?side1 ?side2 A10.out).mono ?_); (case side1 => repeat (first | exact (Kd.R_reads' HO695.out).2.2 | (with_reducible refine Kd.C_alloc ?_ _) | (with_reducible refine Kd.C_drewN ?_ _) | (with_reducible refine Kd.C_drew ?_))); (case side2 => exact (Kd.R_reads' HO695.out).2.1); rintro e w24 ⟨v697, rfl, ho0, hb⟩; refine ⟨_, rfl, ?_⟩; have n0_ := Aside0.mk (Kd.R_below (by (with_reducible repeat (first | apply Kd.R_alloc | apply Kd.R_drewN | apply Kd.R_drew)); exact HO689.out) hb); have n1_ := Aside0.mk (Kd.R_elder' (by (with_reducible repeat (first | apply Kd.R_alloc | apply Kd.R_drewN | apply Kd.R_drew)); exact HO692.out) (Kd.R_base ho0) hb); have n2_ := Aside0.mk (Kd.R_below (by (with_reducible repeat (first | apply Kd.R_alloc | apply Kd.R_drewN | apply Kd.R_drew)); exact HO695.out) hb); have n3_ := Aside0.mk (Kd.R_lower (Kd.R_new' ho0 (Kd.R_lt (by (with_reducible repeat (first | apply Kd.R_alloc | apply Kd.R_drewN | apply Kd.R_drew)); exact HO692.out))) (below_size (by repeat (first | (with_reducible first | exact HB.out | apply below_alloc | apply pw_below_drewN | apply below_drew1) | exact HB.out)))); have n4_ := Aside0.mk (below_step (by repeat (first | (with_reducible first | exact HB.out | apply below_alloc | apply pw_below_drewN | apply below_drew1) | exact HB.out)) hb); clear HO689; clear HO692; clear HO695; clear HB; have HO689 := n0_; have HO692 := n1_; have HO695 := n2_; have HO698 := n3_; have HB := n4_; clear n0_ n1_ n2_ n3_ n4_; (try clear hb); (try clear hb2); (try clear hk); (try clear hi); (try clear ho0); obtain ⟨Ao25, co25, eo25⟩ := Kd.R_slice HO698.out; subst eo25; obtain ⟨Ao26, co26, eo26⟩ := Kd.R_slice HO692.out; subst eo26) | ((with_reducible refine gate_callee (f := 37) rfl ?_); refine goesL_ (some 32) rfl rfl Try.func37 (by kernel_rfl) rfl #[.slice Ao25 t696.length co25, .slice Ao26 t690.length co26] rfl (by (try simp only [List.map_toArray, List.map_cons, List.map_nil]); first | done | rfl | (simp only [List.length_drop, List.length_take]; rfl)) ?_; (with_reducible refine (laws_eqPlaceS.calls k _ _ t696 _ _ t690 true _ ?side1 ?side2 ?side3 ?side4 A11.out).mono ?_); (case side1 => repeat (first | exact (Kd.R_reads' HO698.out).2.2 | (with_reducible refine Kd.C_alloc ?_ _) | (with_reducible refine Kd.C_drewN ?_ _) | (with_reducible refine Kd.C_drew ?_))); (case side2 => exact (Kd.R_reads' HO698.out).2.1); (case side3 => repeat (first | exact (Kd.R_reads' HO692.out).2.2 | (with_reducible refine Kd.C_alloc ?_ _) | (with_reducible refine Kd.C_drewN ?_ _) | (with_reducible refine Kd.C_drew ?_))); (case side4 => exact (Kd.R_reads' HO692.out).2.1); rintro e w27 ⟨rfl, hb⟩; refine ⟨_, rfl, ?_⟩; have n0_ := Aside0.mk (Kd.R_below (by (with_reducible repeat (first | apply Kd.R_alloc | apply Kd.R_drewN | apply Kd.R_drew)); exact HO689.out) hb); have n1_ := Aside0.mk (Kd.R_below (by (with_reducible repeat (first | apply Kd.R_alloc | apply Kd.R_drewN | apply Kd.R_drew)); exact HO692.out) hb); have n2_ := Aside0.mk (Kd.R_below (by (with_reducible repeat (first | apply Kd.R_alloc | apply Kd.R_drewN | apply Kd.R_drew)); exact HO695.out) hb); have n3_ := Aside0.mk (Kd.R_below (by (with_reducible repeat (first | apply Kd.R_alloc | apply Kd.R_drewN | apply Kd.R_drew)); exact HO698.out) hb); have n4_ := Aside0.mk (below_step (by repeat (first | (with_reducible first | exact HB.out | apply below_alloc | apply pw_below_drewN | apply below_drew1) | exact HB.out)) hb); clear HO689; clear HO692; clear HO695; clear HO698; clear HB; have HO689 := n0_; have HO692 := n1_; have HO695 := n2_; have HO698 := n3_; have HB := n4_; clear n0_ n1_ n2_ n3_ n4_; (try clear hb); (try clear hb2); (try clear hk); (try clear hi)) | ((with_reducible refine gate_callee (f := 35) rfl ?_); refine goesL_ (some 36) rfl rfl Try.func35 (by kernel_rfl) rfl #[.slice A0 l0.length c0] rfl (by (try simp only [List.map_toArray, List.map_cons, List.map_nil]); first | done | rfl | (simp only [List.length_drop, List.length_take]; rfl)) ?_; (with_reducible refine (laws_toObjectS.calls k _ _ l0 t700 _ ?side1 ?side2 A13.out).mono ?_); (case side1 => repeat (first | exact (Kd.C_below HR0.out HB.out) | (with_reducible refine Kd.C_alloc ?_ _) | (with_reducible refine Kd.C_drewN ?_ _) | (with_reducible refine Kd.C_drew ?_))); (case side2 => exact HC0.out); rintro e w28 ⟨v701, rfl, ho0, hb⟩; refine ⟨_, rfl, ?_⟩; have n0_ := Aside0.mk (Kd.R_elder' (by (with_reducible repeat (first | apply Kd.R_alloc | apply Kd.R_drewN | apply Kd.R_drew)); exact HO689.out) (Kd.R_base ho0) hb); have n1_ := Aside0.mk (Kd.R_below (by (with_reducible repeat (first | apply Kd.R_alloc | apply Kd.R_drewN | apply Kd.R_drew)); exact HO692.out) hb); have n2_ := Aside0.mk (Kd.R_elder' (by (with_reducible repeat (first | apply Kd.R_alloc | apply Kd.R_drewN | apply Kd.R_drew)); exact HO695.out) (Kd.R_base ho0) hb); have n3_ := Aside0.mk (Kd.R_below (by (with_reducible repeat (first | apply Kd.R_alloc | apply Kd.R_drewN | apply Kd.R_drew)); exact HO698.out) hb); have n4_ := Aside0.mk (Kd.R_lower (Kd.R_new' (Kd.R_new' ho0 (Kd.R_lt (by (with_reducible repeat (first | apply Kd.R_alloc | apply Kd.R_drewN | apply Kd.R_drew)); exact HO689.out))) (Kd.R_lt (by (with_reducible repeat (first | apply Kd.R_alloc | apply Kd.R_drewN | apply Kd.R_drew)); exact HO695.out))) (below_size (by repeat (first | (with_reducible first | exact HB.out | apply below_alloc | apply pw_below_drewN | apply below_drew1) | exact HB.out)))); have n5_ := Aside0.mk (below_step (by repeat (first | (with_reducible first | exact HB.out | apply below_alloc | apply pw_below_drewN | apply below_drew1) | exact HB.out)) hb); clear HO689; clear HO692; clear HO695; clear HO698; clear HB; have HO689 := n0_; have HO692 := n1_; have HO695 := n2_; have HO698 := n3_; have HO702 := n4_; have HB := n5_; clear n0_ n1_ n2_ n3_ n4_ n5_; (try clear hb); (try clear hb2); (try clear hk); (try clear hi); (try clear ho0); obtain ⟨Ao29, co29, eo29⟩ := Kd.R_slice HO702.out; subst eo29) | ((with_reducible refine gate_callee (f := 38) rfl ?_); refine goesL_ (some 37) rfl rfl Try.func38 (by kernel_rfl) rfl #[.slice Ao23 t693.length co23, .slice Ao29 t700.length co29] rfl (by (try simp only [List.map_toArray, List.map_cons, List.map_nil]); first | done | rfl | (simp only [List.length_drop, List.length_take]; rfl)) ?_; (with_reducible refine (laws_eqObjectS.calls k _ _ t693 _ _ t700 true _ ?side1 ?side2 ?side3 ?side4 A14.out).mono ?_); (case side1 => repeat (first | exact (Kd.R_reads' HO695.out).2.2 | (with_reducible refine Kd.C_alloc ?_ _) | (with_reducible refine Kd.C_drewN ?_ _) | (with_reducible refine Kd.C_drew ?_))); (case side2 => exact (Kd.R_reads' HO695.out).2.1); (case side3 => repeat (first | exact (Kd.R_reads' HO702.out).2.2 | (with_reducible refine Kd.C_alloc ?_ _) | (with_reducible refine Kd.C_drewN ?_ _) | (with_reducible refine Kd.C_drew ?_))); (case side4 => exact (Kd.R_reads' HO702.out).2.1); rintro e w30 ⟨rfl, hb⟩; refine ⟨_, rfl, ?_⟩; have n0_ := Aside0.mk (Kd.R_below (by (with_reducible repeat (first | apply Kd.R_alloc | apply Kd.R_drewN | apply Kd.R_drew)); exact HO689.out) hb); have n1_ := Aside0.mk (Kd.R_below (by (with_reducible repeat (first | apply Kd.R_alloc | apply Kd.R_drewN | apply Kd.R_drew)); exact HO692.out) hb); have n2_ := Aside0.mk (Kd.R_below (by (with_reducible repeat (first | apply Kd.R_alloc | apply Kd.R_drewN | apply Kd.R_drew)); exact HO695.out) hb); have n3_ := Aside0.mk (Kd.R_below (by (with_reducible repeat (first | apply Kd.R_alloc | apply Kd.R_drewN | apply Kd.R_drew)); exact HO698.out) hb); have n4_ := Aside0.mk (Kd.R_below (by (with_reducible repeat (first | apply Kd.R_alloc | apply Kd.R_drewN | apply Kd.R_drew)); exact HO702.out) hb); have n5_ := Aside0.mk (below_step (by repeat (first | (with_reducible first | exact HB.out | apply below_alloc | apply pw_below_drewN | apply below_drew1) | exact HB.out)) hb); clear HO689; clear HO692; clear HO695; clear HO698; clear HO702; clear HB; have HO689 := n0_; have HO692 := n1_; have HO695 := n2_; have HO698 := n3_; have HO702 := n4_; have HB := n5_; clear n0_ n1_ n2_ n3_ n4_ n5_; (try clear hb); (try clear hb2); (try clear hk); (try clear hi)) | ((with_reducible refine gate_callee (f := 39) rfl ?_); refine goesL_ (some 41) rfl rfl Try.func39 (by kernel_rfl) rfl #[.slice Ao23 t693.length co23, .int .i64 1] rfl (by (try simp only [List.map_toArray, List.map_cons, List.map_nil]); first | done | rfl | (simp only [List.length_drop, List.length_take]; rfl)) ?_; (with_reducible refine (laws_markObjectS.calls (fun k_ => ((((True ∧ some k_ ≠ (.slice Ao20 t687.length co20 : Value).ownBlock) ∧ some k_ ≠ (.slice Ao29 t700.length co29 : Value).ownBlock) ∧ some k_ ≠ (.slice Ao26 t690.length co26 : Value).ownBlock) ∧ some k_ ≠ (.slice Ao25 t696.length co25 : Value).ownBlock) ∧ w.heap.size ≤ k_) (.slice Ao23 t693.length co23) t693 1 t704 w _ ?side1 ?side2 A16.out).mono ?_); (case side1 => repeat (first | (with_reducible first | exact HB.out | apply below_alloc | apply pw_below_drewN | apply below_drew1) | exact HB.out)); (case side2 => exact Kd.R_mono (Kd.R_bound (Kd.R_apart' (Kd.R_apart' (HO695.out) (Kd.R_typed HO692.out) (by decide)) (Kd.R_typed HO698.out) (by decide))) (fun _ h_ => ⟨h_.1, h_.2.1⟩)); rintro e w31 ⟨rfl, hb, hkp⟩; refine ⟨_, rfl, ?_⟩; have n0_ := Aside0.mk (Kd.R_mono (ok' := fun k_ => some k_ ≠ (.slice Ao25 t696.length co25 : Value).ownBlock) (Kd.R_keptB ((Kd.R_mono (Kd.R_tight2 rfl HO692.out) (fun k_ hk => (⟨hk.2, fun p_ => (p_.1.1.2) hk.1⟩ : _ ∧ ¬ ((fun k_ => ((((True ∧ some k_ ≠ (.slice Ao20 t687.length co20 : Value).ownBlock) ∧ some k_ ≠ (.slice Ao29 t700.length co29 : Value).ownBlock) ∧ some k_ ≠ (.slice Ao26 t690.length co26 : Value).ownBlock) ∧ some k_ ≠ (.slice Ao25 t696.length co25 : Value).ownBlock) ∧ w.heap.size ≤ k_)) k_)))) hkp (fun k_ hk_ hs_ => (hk_.2) hs_)) (fun k_ hk_ => hk_.1.1.2)); have n1_ := Aside0.mk (Kd.R_mono (ok' := fun k_ => some k_ ≠ (.slice Ao26 t690.length co26 : Value).ownBlock) (Kd.R_keptB ((Kd.R_mono (Kd.R_tight2 rfl HO698.out) (fun k_ hk => (⟨hk.2, fun p_ => (p_.1.2) hk.1⟩ : _ ∧ ¬ ((fun k_ => ((((True ∧ some k_ ≠ (.slice Ao20 t687.length co20 : Value).ownBlock) ∧ some k_ ≠ (.slice Ao29 t700.length co29 : Value).ownBlock) ∧ some k_ ≠ (.slice Ao26 t690.length co26 : Value).ownBlock) ∧ some k_ ≠ (.slice Ao25 t696.length co25 : Value).ownBlock) ∧ w.heap.size ≤ k_)) k_)))) hkp (fun k_ hk_ hs_ => (hk_.2) hs_)) (fun k_ hk_ => hk_.1.1.2)); have n2_ := Aside0.mk (hb); clear HO692; clear HO698; clear HB; clear HO695; clear HO689; clear HO702; have HO692 := n0_; have HO698 := n1_; have HB := n2_; clear n0_ n1_ n2_; (try clear hb); (try clear hkp)))
         (try simp only [Act.put, List.setIfInBounds_toArray, List.set_cons_zero, List.set_cons_succ])
         go_cut [49] (fun v49 wc => ∃ (kq : Nat) (x49_16 : Bool), v49 = .bool x49_16 ∧ Aside0 (laws_FnExactNeeded.j0 kq l0 a1 t690 t696 x49_16 = some r) ∧ Aside0 (kq ≤ k) ∧ Aside0 (Kd.R k125 125 wc w.heap.size (fun k_ => some k_ ≠ ((.slice Ao25 t696.length co25) : Value).ownBlock) (.slice Ao26 t690.length co26) t690) ∧ Aside0 (Kd.R k125 125 wc w.heap.size (fun k_ => some k_ ≠ ((.slice Ao26 t690.length co26) : Value).ownBlock) (.slice Ao25 t696.length co25) t696) ∧ Aside0 (Below w.heap.size w wc))
         case first =>
          have H := HC17.out
          clear HC17
          by_cases c32 : t704 < 0
          · rw [if_pos c32] at H
            have c32b0 : decide (t704 < 0) = true := decide_eq_true c32
            clear c32
            (first | rw [c32b0] | (simp only [i64_w, i32_w]; rw [c32b0]) | skip)
            have H' := Aside0.mk H
            clear H
            go_wp2
            go_meet
            case rel => exact ⟨_, (true), (by first | rfl | (simp; done) | (simp [*]; done)), H', ⟨by first | omega | exact Nat.le_refl _⟩, ⟨by (with_reducible repeat (first | apply Kd.R_alloc | apply Kd.R_drewN | apply Kd.R_drew)); exact HO692.out⟩, ⟨by (with_reducible repeat (first | apply Kd.R_alloc | apply Kd.R_drewN | apply Kd.R_drew)); exact HO698.out⟩, ⟨by repeat (first | (with_reducible first | exact HB.out | apply below_alloc | apply pw_below_drewN | apply below_drew1) | exact HB.out)⟩⟩
          · rw [if_neg c32] at H
            have c32b0 : decide (t704 < 0) = false := decide_eq_false c32
            clear c32
            (first | rw [c32b0] | (simp only [i64_w, i32_w]; rw [c32b0]) | skip)
            replace H := Option.bind_eq_some_iff.mp H
            obtain ⟨t705, A330, H⟩ := H
            replace H : (laws_FnExactNeeded.j0 k l0 a1 t690 t696 (!t705)) = some r := H
            have A33 := Aside0.mk A330
            clear A330
            have H' := Aside0.mk H
            clear H
            go_wp2_with (first | (go_at_call 37; (with_reducible refine (laws_eqPlaceS.calls k _ _ t696 _ _ t690 t705 _ ?side1 ?side2 ?side3 ?side4 A33.out).mono ?_); (case side1 => repeat (first | exact (Kd.R_reads' HO698.out).2.2 | (with_reducible refine Kd.C_alloc ?_ _) | (with_reducible refine Kd.C_drewN ?_ _) | (with_reducible refine Kd.C_drew ?_))); (case side2 => exact (Kd.R_reads' HO698.out).2.1); (case side3 => repeat (first | exact (Kd.R_reads' HO692.out).2.2 | (with_reducible refine Kd.C_alloc ?_ _) | (with_reducible refine Kd.C_drewN ?_ _) | (with_reducible refine Kd.C_drew ?_))); (case side4 => exact (Kd.R_reads' HO692.out).2.1); rintro e w34 ⟨rfl, hb⟩; have n0_ := Aside0.mk (Kd.R_below (by (with_reducible repeat (first | apply Kd.R_alloc | apply Kd.R_drewN | apply Kd.R_drew)); exact HO692.out) hb); have n1_ := Aside0.mk (Kd.R_below (by (with_reducible repeat (first | apply Kd.R_alloc | apply Kd.R_drewN | apply Kd.R_drew)); exact HO698.out) hb); have n2_ := Aside0.mk (below_step (by repeat (first | (with_reducible first | exact HB.out | apply below_alloc | apply pw_below_drewN | apply below_drew1) | exact HB.out)) hb); clear HO692; clear HO698; clear HB; have HO692 := n0_; have HO698 := n1_; have HB := n2_; clear n0_ n1_ n2_; (try clear hb); (try clear hb2); (try clear hk); (try clear hi)))
            go_meet
            case rel => exact ⟨_, (!t705), (by first | rfl | (simp; done) | (simp [*]; done)), H', ⟨by first | omega | exact Nat.le_refl _⟩, ⟨by (with_reducible repeat (first | apply Kd.R_alloc | apply Kd.R_drewN | apply Kd.R_drew)); exact HO692.out⟩, ⟨by (with_reducible repeat (first | apply Kd.R_alloc | apply Kd.R_drewN | apply Kd.R_drew)); exact HO698.out⟩, ⟨by repeat (first | (with_reducible first | exact HB.out | apply below_alloc | apply pw_below_drewN | apply below_drew1) | exact HB.out)⟩⟩
         case rest =>
          clear HC17
          try clear c1
          try clear p2
          try clear c3
          try clear c3b0
          try clear c3b1
          try clear c5
          try clear c5b0
          try clear c7
          try clear c12
          try clear c15
          try clear c32
          try clear c32b0
          try clear c33
          try clear c34
          obtain ⟨kq, x49_16, rfl, HA, HJ16, HO_6, HO_8, HB⟩ := hcut
          cases kq with
          | zero => exact absurd HA.out (by simp [laws_FnExactNeeded.j0])
          | succ kj16 =>
           have H := HA.out
           clear HA
           simp only [laws_FnExactNeeded.j0] at H
           by_cases c35 : x49_16 = true
           · subst c35
             have H1 : (some false) = some r := by rw [if_pos rfl] at H; exact H
             clear H
             have H := H1
             clear H1
             exact Bool.noConfusion ((Option.some.inj H).trans hr_.out)
           · replace c35 := Bool.eq_false_iff.mpr c35
             subst c35
             have H1 : ((laws_markPlaceS.f kj16 t696 1).bind fun bt706 => ((laws_heldPlaceS.f kj16 bt706.2 1).bind fun t708 => (if t708 < 0 then (some false) else (if t708 = bt706.1 then ((laws_toObjectS.f kj16 l0).bind fun t709 => ((impl_Needed.f kj16 t709 a1).bind fun t712 => ((laws_eqPlaceS.f kj16 t712 t690).bind fun t715 => (if t715 = true then ((laws_heldPlaceS.f kj16 bt706.2 1).bind fun t716 => (if t716 < 0 then (some false) else (if t716 = bt706.1 then (some true) else (some false)))) else (some false))))) else (some false))))) = some r := by rw [if_neg (show ¬ (false = true) by decide)] at H; exact H
             clear H
             have H := H1
             clear H1
             replace H := Option.bind_eq_some_iff.mp H
             obtain ⟨⟨t706, t707⟩, A360, H⟩ := H
             replace H : ((laws_heldPlaceS.f kj16 t707 1).bind fun t708 => (if t708 < 0 then (some false) else (if t708 = t706 then ((laws_toObjectS.f kj16 l0).bind fun t709 => ((impl_Needed.f kj16 t709 a1).bind fun t712 => ((laws_eqPlaceS.f kj16 t712 t690).bind fun t715 => (if t715 = true then ((laws_heldPlaceS.f kj16 t707 1).bind fun t716 => (if t716 < 0 then (some false) else (if t716 = t706 then (some true) else (some false)))) else (some false))))) else (some false)))) = some r := H
             have A36 := Aside0.mk A360
             clear A360
             replace H := Option.bind_eq_some_iff.mp H
             obtain ⟨t708, A370, H⟩ := H
             replace H : (if t708 < 0 then (some false) else (if t708 = t706 then ((laws_toObjectS.f kj16 l0).bind fun t709 => ((impl_Needed.f kj16 t709 a1).bind fun t712 => ((laws_eqPlaceS.f kj16 t712 t690).bind fun t715 => (if t715 = true then ((laws_heldPlaceS.f kj16 t707 1).bind fun t716 => (if t716 < 0 then (some false) else (if t716 = t706 then (some true) else (some false)))) else (some false))))) else (some false))) = some r := H
             have A37 := Aside0.mk A370
             clear A370
             by_cases c38 : t708 < 0
             · rw [if_pos c38] at H
               have c38b0 : decide (t708 < 0) = true := decide_eq_true c38
               clear c38
               exact Bool.noConfusion ((Option.some.inj H).trans hr_.out)
             · rw [if_neg c38] at H
               have c38b0 : decide (t708 < 0) = false := decide_eq_false c38
               clear c38
               by_cases c40 : t708 = t706
               · rw [if_pos c40] at H
                 have c40b0 : (t708 == t706) = true := beq_iff_eq.mpr c40
                 have c40b1 : (t708 != t706) = false := bne_eq_false_iff_eq.mpr c40
                 clear c40
                 replace H := Option.bind_eq_some_iff.mp H
                 obtain ⟨t709, A410, H⟩ := H
                 replace H : ((impl_Needed.f kj16 t709 a1).bind fun t712 => ((laws_eqPlaceS.f kj16 t712 t690).bind fun t715 => (if t715 = true then ((laws_heldPlaceS.f kj16 t707 1).bind fun t716 => (if t716 < 0 then (some false) else (if t716 = t706 then (some true) else (some false)))) else (some false)))) = some r := H
                 have A41 := Aside0.mk A410
                 clear A410
                 replace H := Option.bind_eq_some_iff.mp H
                 obtain ⟨t712, A420, H⟩ := H
                 replace H : ((laws_eqPlaceS.f kj16 t712 t690).bind fun t715 => (if t715 = true then ((laws_heldPlaceS.f kj16 t707 1).bind fun t716 => (if t716 < 0 then (some false) else (if t716 = t706 then (some true) else (some false)))) else (some false))) = some r := H
                 have A42 := Aside0.mk A420
                 clear A420
                 replace H := Option.bind_eq_some_iff.mp H
                 obtain ⟨t715, A430, H⟩ := H
                 replace H : (if t715 = true then ((laws_heldPlaceS.f kj16 t707 1).bind fun t716 => (if t716 < 0 then (some false) else (if t716 = t706 then (some true) else (some false)))) else (some false)) = some r := H
                 have A43 := Aside0.mk A430
                 clear A430
                 by_cases c44 : t715 = true
                 · subst c44
                   have H1 : ((laws_heldPlaceS.f kj16 t707 1).bind fun t716 => (if t716 < 0 then (some false) else (if t716 = t706 then (some true) else (some false)))) = some r := by rw [if_pos rfl] at H; exact H
                   clear H
                   have H := H1
                   clear H1
                   replace H := Option.bind_eq_some_iff.mp H
                   obtain ⟨t716, A450, H⟩ := H
                   replace H : (if t716 < 0 then (some false) else (if t716 = t706 then (some true) else (some false))) = some r := H
                   have A45 := Aside0.mk A450
                   clear A450
                   by_cases c46 : t716 < 0
                   · rw [if_pos c46] at H
                     have c46b0 : decide (t716 < 0) = true := decide_eq_true c46
                     clear c46
                     exact Bool.noConfusion ((Option.some.inj H).trans hr_.out)
                   · rw [if_neg c46] at H
                     have c46b0 : decide (t716 < 0) = false := decide_eq_false c46
                     clear c46
                     by_cases c53 : t716 = t706
                     · rw [if_pos c53] at H
                       have c53b0 : (t716 == t706) = true := beq_iff_eq.mpr c53
                       have c53b1 : (t716 != t706) = false := bne_eq_false_iff_eq.mpr c53
                       clear c53
                       obtain rfl := Option.some.inj H
                       go_wp2_with (first | ((with_reducible refine gate_callee (f := 40) rfl ?_); refine goesL_ (some 52) rfl rfl Try.func40 (by kernel_rfl) rfl #[.slice Ao25 t696.length co25, .int .i64 1] rfl (by (try simp only [List.map_toArray, List.map_cons, List.map_nil]); first | done | rfl | (simp only [List.length_drop, List.length_take]; rfl)) ?_; (with_reducible refine (laws_markPlaceS.calls kj16 (fun k_ => some k_ = (.slice Ao25 t696.length co25 : Value).ownBlock) (.slice Ao25 t696.length co25) t696 1 t706 t707 w _ ?side1 ?side2 A36.out).mono ?_); (case side1 => repeat (first | (with_reducible first | exact HB.out | apply below_alloc | apply pw_below_drewN | apply below_drew1) | exact HB.out)); (case side2 => exact Kd.R_tight rfl HO_8.out); rintro e w54 ⟨rfl, hy0, hb, hkp⟩; refine ⟨_, rfl, ?_⟩; have n0_ := Aside0.mk (Kd.R_mono (ok' := fun k_ => some k_ ≠ (.slice Ao25 t696.length co25 : Value).ownBlock) (Kd.R_keptB (HO_6.out) hkp (fun k_ hk_ hs_ => (hk_) hs_)) (fun k_ hk_ => hk_.1)); have n1_ := Aside0.mk (Kd.R_reok rfl hy0 (fun k_ e_ => HO_8.out.1 k_ e_)); have n2_ := Aside0.mk (hb); clear HO_6; clear HO_8; clear HB; have HO_6 := n0_; have HO_8 := n1_; have HB := n2_; clear n0_ n1_ n2_; (try clear hb); (try clear hkp); (try clear hy0)) | ((with_reducible refine gate_callee (f := 41) rfl ?_); refine goesL_ (some 55) rfl rfl Try.func41 (by kernel_rfl) rfl #[.slice Ao25 t707.length co25, .int .i64 1] rfl (by (try simp only [List.map_toArray, List.map_cons, List.map_nil]); first | done | (rw [show t707.length = t696.length from (Kd.R_reads' HO_8.out).1.symm] <;> rfl) | rfl | (simp only [List.length_drop, List.length_take]; rfl)) ?_; (with_reducible refine (laws_heldPlaceS.calls kj16 _ _ t707 1 t708 _ ?side1 ?side2 A37.out).mono ?_); (case side1 => repeat (first | exact (Kd.R_reads' HO_8.out).2.2 | (with_reducible refine Kd.C_alloc ?_ _) | (with_reducible refine Kd.C_drewN ?_ _) | (with_reducible refine Kd.C_drew ?_))); (case side2 => rw [show t707.length = t696.length from (Kd.R_reads' HO_8.out).1.symm]; exact (Kd.R_reads' HO_8.out).2.1); rintro e w' ⟨rfl, ⟨nd, rfl⟩⟩; refine ⟨_, rfl, ?_⟩) | ((with_reducible refine gate_callee (f := 35) rfl ?_); refine goesL_ (some 62) rfl rfl Try.func35 (by kernel_rfl) rfl #[.slice A0 l0.length c0] rfl (by (try simp only [List.map_toArray, List.map_cons, List.map_nil]); first | done | rfl | (simp only [List.length_drop, List.length_take]; rfl)) ?_; (with_reducible refine (laws_toObjectS.calls kj16 _ _ l0 t709 _ ?side1 ?side2 A41.out).mono ?_); (case side1 => repeat (first | exact (Kd.C_below HR0.out (by repeat (first | (with_reducible first | exact HB.out | apply below_alloc | apply pw_below_drewN | apply below_drew1) | exact HB.out))) | (with_reducible refine Kd.C_alloc ?_ _) | (with_reducible refine Kd.C_drewN ?_ _) | (with_reducible refine Kd.C_drew ?_))); (case side2 => exact HC0.out); rintro e w55 ⟨v710, rfl, ho0, hb⟩; refine ⟨_, rfl, ?_⟩; have n0_ := Aside0.mk (Kd.R_below (by (with_reducible repeat (first | apply Kd.R_alloc | apply Kd.R_drewN | apply Kd.R_drew)); exact HO_6.out) hb); have n1_ := Aside0.mk (Kd.R_below (by (with_reducible repeat (first | apply Kd.R_alloc | apply Kd.R_drewN | apply Kd.R_drew)); exact HO_8.out) hb); have n2_ := Aside0.mk (Kd.R_lower ho0 (below_size (by repeat (first | (with_reducible first | exact HB.out | apply below_alloc | apply pw_below_drewN | apply below_drew1) | exact HB.out)))); have n3_ := Aside0.mk (below_step (by repeat (first | (with_reducible first | exact HB.out | apply below_alloc | apply pw_below_drewN | apply below_drew1) | exact HB.out)) hb); clear HO_6; clear HO_8; clear HB; have HO_6 := n0_; have HO_8 := n1_; have HO711 := n2_; have HB := n3_; clear n0_ n1_ n2_ n3_; (try clear hb); (try clear hb2); (try clear hk); (try clear hi); (try clear ho0); obtain ⟨Ao56, co56, eo56⟩ := Kd.R_slice HO711.out; subst eo56) | ((with_reducible refine gate_callee (f := 36) rfl ?_); refine goesL_ (some 64) rfl rfl Try.func36 (by kernel_rfl) rfl #[.slice Ao56 t709.length co56, .string a1] rfl (by (try simp only [List.map_toArray, List.map_cons, List.map_nil]); first | done | rfl | (simp only [List.length_drop, List.length_take]; rfl)) ?_; (with_reducible refine (impl_Needed.calls kj16 _ _ t709 a1 t712 _ ?side1 ?side2 A42.out).mono ?_); (case side1 => repeat (first | exact (Kd.R_reads' HO711.out).2.2 | (with_reducible refine Kd.C_alloc ?_ _) | (with_reducible refine Kd.C_drewN ?_ _) | (with_reducible refine Kd.C_drew ?_))); (case side2 => exact (Kd.R_reads' HO711.out).2.1); rintro e w57 ⟨v713, rfl, ho0, hb⟩; refine ⟨_, rfl, ?_⟩; have n0_ := Aside0.mk (Kd.R_elder' (by (with_reducible repeat (first | apply Kd.R_alloc | apply Kd.R_drewN | apply Kd.R_drew)); exact HO_6.out) (Kd.R_base ho0) hb); have n1_ := Aside0.mk (Kd.R_elder' (by (with_reducible repeat (first | apply Kd.R_alloc | apply Kd.R_drewN | apply Kd.R_drew)); exact HO_8.out) (Kd.R_base ho0) hb); have n2_ := Aside0.mk (Kd.R_below (by (with_reducible repeat (first | apply Kd.R_alloc | apply Kd.R_drewN | apply Kd.R_drew)); exact HO711.out) hb); have n3_ := Aside0.mk (Kd.R_lower (Kd.R_new' (Kd.R_new' ho0 (Kd.R_lt (by (with_reducible repeat (first | apply Kd.R_alloc | apply Kd.R_drewN | apply Kd.R_drew)); exact HO_6.out))) (Kd.R_lt (by (with_reducible repeat (first | apply Kd.R_alloc | apply Kd.R_drewN | apply Kd.R_drew)); exact HO_8.out))) (below_size (by repeat (first | (with_reducible first | exact HB.out | apply below_alloc | apply pw_below_drewN | apply below_drew1) | exact HB.out)))); have n4_ := Aside0.mk (below_step (by repeat (first | (with_reducible first | exact HB.out | apply below_alloc | apply pw_below_drewN | apply below_drew1) | exact HB.out)) hb); clear HO_6; clear HO_8; clear HO711; clear HB; have HO_6 := n0_; have HO_8 := n1_; have HO711 := n2_; have HO714 := n3_; have HB := n4_; clear n0_ n1_ n2_ n3_ n4_; (try clear hb); (try clear hb2); (try clear hk); (try clear hi); (try clear ho0); obtain ⟨Ao58, co58, eo58⟩ := Kd.R_slice HO714.out; subst eo58) | ((with_reducible refine gate_callee (f := 37) rfl ?_); refine goesL_ (some 67) rfl rfl Try.func37 (by kernel_rfl) rfl #[.slice Ao58 t712.length co58, .slice Ao26 t690.length co26] rfl (by (try simp only [List.map_toArray, List.map_cons, List.map_nil]); first | done | rfl | (simp only [List.length_drop, List.length_take]; rfl)) ?_; (with_reducible refine (laws_eqPlaceS.calls kj16 _ _ t712 _ _ t690 true _ ?side1 ?side2 ?side3 ?side4 A43.out).mono ?_); (case side1 => repeat (first | exact (Kd.R_reads' HO714.out).2.2 | (with_reducible refine Kd.C_alloc ?_ _) | (with_reducible refine Kd.C_drewN ?_ _) | (with_reducible refine Kd.C_drew ?_))); (case side2 => exact (Kd.R_reads' HO714.out).2.1); (case side3 => repeat (first | exact (Kd.R_reads' HO_6.out).2.2 | (with_reducible refine Kd.C_alloc ?_ _) | (with_reducible refine Kd.C_drewN ?_ _) | (with_reducible refine Kd.C_drew ?_))); (case side4 => exact (Kd.R_reads' HO_6.out).2.1); rintro e w59 ⟨rfl, hb⟩; refine ⟨_, rfl, ?_⟩; have n0_ := Aside0.mk (Kd.R_below (by (with_reducible repeat (first | apply Kd.R_alloc | apply Kd.R_drewN | apply Kd.R_drew)); exact HO_6.out) hb); have n1_ := Aside0.mk (Kd.R_below (by (with_reducible repeat (first | apply Kd.R_alloc | apply Kd.R_drewN | apply Kd.R_drew)); exact HO_8.out) hb); have n2_ := Aside0.mk (Kd.R_below (by (with_reducible repeat (first | apply Kd.R_alloc | apply Kd.R_drewN | apply Kd.R_drew)); exact HO711.out) hb); have n3_ := Aside0.mk (Kd.R_below (by (with_reducible repeat (first | apply Kd.R_alloc | apply Kd.R_drewN | apply Kd.R_drew)); exact HO714.out) hb); have n4_ := Aside0.mk (below_step (by repeat (first | (with_reducible first | exact HB.out | apply below_alloc | apply pw_below_drewN | apply below_drew1) | exact HB.out)) hb); clear HO_6; clear HO_8; clear HO711; clear HO714; clear HB; have HO_6 := n0_; have HO_8 := n1_; have HO711 := n2_; have HO714 := n3_; have HB := n4_; clear n0_ n1_ n2_ n3_ n4_; (try clear hb); (try clear hb2); (try clear hk); (try clear hi)) | ((with_reducible refine gate_callee (f := 41) rfl ?_); refine goesL_ (some 71) rfl rfl Try.func41 (by kernel_rfl) rfl #[.slice Ao25 t707.length co25, .int .i64 1] rfl (by (try simp only [List.map_toArray, List.map_cons, List.map_nil]); first | done | (rw [show t707.length = t696.length from (Kd.R_reads' HO_8.out).1.symm] <;> rfl) | rfl | (simp only [List.length_drop, List.length_take]; rfl)) ?_; (with_reducible refine (laws_heldPlaceS.calls kj16 _ _ t707 1 t716 _ ?side1 ?side2 A45.out).mono ?_); (case side1 => repeat (first | exact (Kd.R_reads' HO_8.out).2.2 | (with_reducible refine Kd.C_alloc ?_ _) | (with_reducible refine Kd.C_drewN ?_ _) | (with_reducible refine Kd.C_drew ?_))); (case side2 => rw [show t707.length = t696.length from (Kd.R_reads' HO_8.out).1.symm]; exact (Kd.R_reads' HO_8.out).2.1); rintro e w' ⟨rfl, ⟨nd, rfl⟩⟩; refine ⟨_, rfl, ?_⟩))
                       go_ret
                       exact ⟨by first | rfl | (simp [errW_none, errW_some] <;> rfl) | (simp [*, errW_none, errW_some] <;> rfl), by repeat (first | (with_reducible first | exact HB.out | apply below_alloc | apply pw_below_drewN | apply below_drew1) | exact HB.out)⟩
                     · rw [if_neg c53] at H
                       have c53b0 : (t716 == t706) = false := beq_eq_false_iff_ne.mpr c53
                       have c53b1 : (t716 != t706) = true := bne_iff_ne.mpr c53
                       exact Bool.noConfusion ((Option.some.inj H).trans hr_.out)
                 · replace c44 := Bool.eq_false_iff.mpr c44
                   subst c44
                   have H1 : (some false) = some r := by rw [if_neg (show ¬ (false = true) by decide)] at H; exact H
                   clear H
                   have H := H1
                   clear H1
                   exact Bool.noConfusion ((Option.some.inj H).trans hr_.out)
               · rw [if_neg c40] at H
                 have c40b0 : (t708 == t706) = false := beq_eq_false_iff_ne.mpr c40
                 have c40b1 : (t708 != t706) = true := bne_iff_ne.mpr c40
                 exact Bool.noConfusion ((Option.some.inj H).trans hr_.out)
       · replace c15 := Bool.eq_false_iff.mpr c15
         subst c15
         have H1 : (some false) = some r := by rw [if_neg (show ¬ (false = true) by decide)] at H; exact H
         clear H
         have H := H1
         clear H1
         exact Bool.noConfusion ((Option.some.inj H).trans hr_.out)
     · replace c12 := Bool.eq_false_iff.mpr c12
       subst c12
       have H1 : (some false) = some r := by rw [if_neg (show ¬ (false = true) by decide)] at H; exact H
       clear H
       have H := H1
       clear H1
       exact Bool.noConfusion ((Option.some.inj H).trans hr_.out)

end Go.Proofs.Ythegbhfoleiegaa.All


/- What reads as data of a type can be read as a value of its kind. -/
namespace Go.Proofs.Ythegbhfoleiegaa.All
open Go.RowKit Go.Proofs.YthegbhfoleiegaaW.PrintWords Go.Proofs.YthegbhfoleiegaaW.PrintLast Go.Proofs.YthegbhfoleiegaaW.PrintMore
set_option linter.unusedVariables false
set_option linter.unusedSimpArgs false
structure Rdb {α : Type} (d : Kd α) (P : Program) (t : TypeId) (ok : α → Prop) : Prop where
  sz : P.cellsOf t = d.sz
  rd : ∀ {H : Type} {enc : TypeId × Value → H} {w : World} {base : Nat} {sp : Nat → Bool} {held : Bool} {fuel : Nat} {cs : List Value} {x : DataW H × List MemPlace}, DataW.trod enc P w base sp held fuel t cs = some x → ∃ a, d.K w a cs ∧ ok a
theorem Rdb.int {P : Program} {t : TypeId} {k : IntKind} (ht : P.underlying t = some (.int k)) (hs : P.cellsOf t = 1) : Rdb (Kd.int k) P t (fun a => (Lit.int k a).wf = true) :=
  ⟨hs, fun h => by obtain ⟨n, rfl, _, hw⟩ := DataW.trod_int ht h; exact ⟨n, rfl, hw⟩⟩
theorem Rdb.bool {P : Program} {t : TypeId} (ht : P.underlying t = some .bool) (hs : P.cellsOf t = 1) : Rdb Kd.bool P t (fun _ => True) :=
  ⟨hs, fun h => by obtain ⟨b, rfl, _⟩ := DataW.trod_bool ht h; exact ⟨b, rfl, trivial⟩⟩
theorem Rdb.string {P : Program} {t : TypeId} (ht : P.underlying t = some .string) (hs : P.cellsOf t = 1) : Rdb Kd.string P t (fun s => s.size ≤ 9223372036854775807) :=
  ⟨hs, fun h => by obtain ⟨s, rfl, _, hm⟩ := DataW.trod_string ht h; exact ⟨s, rfl, hm⟩⟩
theorem rdb_list {α : Type} {P : Nat → α → Prop} : ∀ n : Nat, (∀ j, j < n → ∃ x, P j x) → ∃ l : List α, l.length = n ∧ ∀ (j : Nat) (x : α), l[j]? = some x → P j x
  | 0, _ => ⟨[], rfl, fun j x h => by simp at h⟩
  | n + 1, h => by
    obtain ⟨l, hl, hp⟩ := rdb_list n (fun j hj => h j (by omega))
    obtain ⟨x, hx⟩ := h n (by omega)
    refine ⟨l ++ [x], by simp [hl], fun j y hy => ?_⟩
    by_cases hj : j < n
    · rw [List.getElem?_append_left (by omega)] at hy
      exact hp j y hy
    · have hlt := (List.getElem?_eq_some_iff.1 hy).1
      simp [hl] at hlt
      have : j = n := by omega
      subst this
      rw [List.getElem?_append_right (by omega)] at hy
      simp [hl] at hy
      subst hy
      exact hx
theorem Rdb.slice {α : Type} {d : Kd α} {P : Program} {t e : TypeId} {ok : α → Prop} (ht : P.underlying t = some (.slice e)) (hs : P.cellsOf t = 1) (h : Rdb d P e ok) : Rdb (Kd.slice e d) P t (fun xs => xs.length ≤ 9223372036854775807 ∧ ∀ x ∈ xs, ok x) := by
  refine ⟨hs, fun {H enc w base sp held fuel cs x} hx => ?_⟩
  rcases Deep.open_slice ht hx with ⟨rfl, _⟩ | ⟨a, len, cap, m, n, D, Pl, rfl, hb, hl, hm, hmm, _, hel⟩
  · exact ⟨[], ⟨none, 0, rfl, Nat.le_refl _, rfl, by simp, fun h0 => by simp at h0⟩, by simp, fun x hx => by simp at hx⟩
  · have hmax : len ≤ 9223372036854775807 := Nat.le_trans hl hm
    have hlm : len ≤ m := by rw [hmm]; split <;> omega
    obtain ⟨xs, hlen, hxs⟩ := rdb_list (P := fun j (x : α) => ok x ∧ ∃ c, c.length = d.sz ∧ d.K w x c ∧ ∀ (i : Nat) (u : Value), c[i]? = some u → w.cell? (a.add (j * d.sz + i)) = some u) len (fun j hj => by
      obtain ⟨cs', hc, htr⟩ := hel j (by omega)
      obtain ⟨x, hK, hok⟩ := h.rd htr
      obtain ⟨_, hcl, hcc⟩ := World.cells?_some hc
      rw [h.sz] at hcl hcc
      refine ⟨x, hok, cs', hcl, hK, fun i u hu => ?_⟩
      have hi := (List.getElem?_eq_some_iff.1 hu).1
      have := hcc i (by omega)
      rw [Addr.add_add] at this
      exact this.trans hu)
    refine ⟨xs, ⟨some a, cap, by rw [hlen], by omega, rfl, by omega, fun _ => ⟨a, rfl, fun j p hj => (hxs j p hj).2⟩⟩, by omega, fun x hx => ?_⟩
    obtain ⟨j, hj⟩ := List.getElem?_of_mem hx
    exact (hxs j x hj).1
/-- The fields of a struct (types and places) from cell 'off' on. -/
structure RdbFs {α : Type} (d : Kd α) (P : Program) (fs : List (TypeId × Nat)) (off : Nat) (ok : α → Prop) : Prop where
  rd : ∀ {H : Type} {enc : TypeId × Value → H} {w : World} {base : Nat} {sp : Nat → Bool} {held : Bool} {n : Nat} {cs : List Value}, cs.length = off + d.sz →
    (∀ f ∈ fs, ∃ x, DataW.trod enc P w base sp held n f.1 ((cs.drop f.2).take (P.cellsOf f.1)) = some x) → ∃ a, d.K w a (cs.drop off) ∧ ok a
theorem RdbFs.one {α : Type} {d : Kd α} {P : Program} {t : TypeId} {off : Nat} {ok : α → Prop} (h : Rdb d P t ok) : RdbFs d P [(t, off)] off ok := by
  refine ⟨fun {H enc w base sp held n cs} hl hf => ?_⟩
  obtain ⟨x, hx⟩ := hf (t, off) (by simp)
  simp only at hx
  rw [h.sz, List.take_of_length_le (by rw [List.length_drop]; omega)] at hx
  exact h.rd hx
theorem RdbFs.cons {α β : Type} {a : Kd α} {b : Kd β} {P : Program} {t : TypeId} {fs : List (TypeId × Nat)} {off off' : Nat} {ok : α → Prop} {ok' : β → Prop} (ho : off + a.sz = off') (h : Rdb a P t ok) (hs : RdbFs b P fs off' ok') : RdbFs (Kd.pair a b) P ((t, off) :: fs) off (fun x => ok x.1 ∧ ok' x.2) := by
  subst ho
  refine ⟨fun {H enc w base sp held n cs} hl hf => ?_⟩
  have hl' : cs.length = off + a.sz + b.sz := by rw [hl]; show off + (a.sz + b.sz) = _; omega
  obtain ⟨x, hx⟩ := hf (t, off) (by simp)
  simp only at hx
  rw [h.sz] at hx
  obtain ⟨y, hy, oky⟩ := h.rd hx
  obtain ⟨z, hz, okz⟩ := hs.rd hl' (fun g hg => hf g (by simp [hg]))
  refine ⟨(y, z), ⟨(cs.drop off).take a.sz, cs.drop (off + a.sz), ?_, hy, hz⟩, oky, okz⟩
  rw [← List.drop_drop, List.take_append_drop]
theorem Rdb.struct {α : Type} {d : Kd α} {P : Program} {t : TypeId} {fs : Array Field} {ok : α → Prop} (ht : P.underlying t = some (.struct fs)) (hs : P.cellsOf t = d.sz) (tos : List (TypeId × Nat)) (htos : fs.toList.map (fun f => (f.type, f.offset)) = tos) (h : RdbFs d P tos 0 ok) : Rdb d P t ok := by
  subst htos
  refine ⟨hs, fun hx => ?_⟩
  obtain ⟨xs, n, rfl, rfl, hl, hxl, hf⟩ := DataW.trod_struct ht hx
  have := h.rd (n := n) (by rw [hl, hs, Nat.zero_add]) (fun f hfm => by
    obtain ⟨f', hf', rfl⟩ := List.mem_map.1 hfm
    obtain ⟨i, hi⟩ := List.getElem?_of_mem hf'
    rw [Array.getElem?_toList] at hi
    have h1 := hf i f' hi
    have hlt : i < xs.length := by rw [hxl]; exact (Array.getElem?_eq_some_iff.1 hi).1
    exact ⟨xs[i], by rw [h1, List.getElem?_eq_getElem hlt]⟩)
  simpa using this
theorem Rdb.iso {α β : Type} {d : Kd α} {P : Program} {t : TypeId} {ok : α → Prop} {f : β → α} (h : Rdb d P t ok) (g : α → β) (hg : ∀ y, f (g y) = y) : Rdb (Kd.iso d f) P t (fun x => ok (f x)) :=
  ⟨h.sz, fun hx => by
    obtain ⟨a, hK, hok⟩ := h.rd hx
    refine ⟨g a, ?_, by rw [hg]; exact hok⟩
    show d.K _ (f (g a)) _
    rw [hg]
    exact hK⟩
end Go.Proofs.Ythegbhfoleiegaa.All


/- How the laws' arguments read. Printed by gen_row.py. -/
namespace Go.Proofs.Ythegbhfoleiegaa.All
open Go.RowKit Go.Proofs.YthegbhfoleiegaaW.PrintWords
set_option linter.unusedVariables false
def ok237 (x : S237) : Prop := (Lit.int .i64 x.f0).wf = true ∧ (Lit.int .i64 x.f1).wf = true ∧ x.f2.size ≤ 9223372036854775807
set_option maxRecDepth 100000 in
theorem rdb237 : Rdb k237 Try.prog 237 ok237 := Rdb.iso (f := fun x : S237 => (x.f0, x.f1, x.f2)) (Rdb.struct Try.underlying237 (by kernel_rfl) [(2, 0), (2, 1), (9, 2)] rfl (RdbFs.cons rfl (Rdb.int Try.underlying2 (by kernel_rfl)) (RdbFs.cons rfl (Rdb.int Try.underlying2 (by kernel_rfl)) (RdbFs.one (Rdb.string Try.underlying9 (by kernel_rfl)))))) (fun y => (⟨y.1, y.2.1, y.2.2⟩ : S237)) (fun _ => rfl)
def ok191 (x : S191) : Prop := x.f0.size ≤ 9223372036854775807 ∧ (Lit.int .i64 x.f1).wf = true ∧ (Lit.int .i64 x.f2).wf = true ∧ (Lit.int .i64 x.f3).wf = true ∧ (x.f4.length ≤ 9223372036854775807 ∧ ∀ y ∈ x.f4, (Lit.int .i64 y).wf = true) ∧ (Lit.int .i64 x.f5).wf = true ∧ (x.f6.length ≤ 9223372036854775807 ∧ ∀ y ∈ x.f6, (Lit.int .u8 y).wf = true) ∧ (x.f7.length ≤ 9223372036854775807 ∧ ∀ y ∈ x.f7, ok237 y)
set_option maxRecDepth 100000 in
theorem rdb191 : Rdb k191 Try.prog 191 ok191 := Rdb.iso (f := fun x : S191 => (x.f0, x.f1, x.f2, x.f3, x.f4, x.f5, x.f6, x.f7)) (Rdb.struct Try.underlying191 (by kernel_rfl) [(9, 0), (2, 1), (2, 2), (2, 3), (22, 4), (2, 5), (72, 6), (189, 7)] rfl (RdbFs.cons rfl (Rdb.string Try.underlying9 (by kernel_rfl)) (RdbFs.cons rfl (Rdb.int Try.underlying2 (by kernel_rfl)) (RdbFs.cons rfl (Rdb.int Try.underlying2 (by kernel_rfl)) (RdbFs.cons rfl (Rdb.int Try.underlying2 (by kernel_rfl)) (RdbFs.cons rfl (Rdb.slice Try.underlying22 (by kernel_rfl) (Rdb.int Try.underlying2 (by kernel_rfl))) (RdbFs.cons rfl (Rdb.int Try.underlying2 (by kernel_rfl)) (RdbFs.cons rfl (Rdb.slice Try.underlying72 (by kernel_rfl) (Rdb.int Try.underlying5 (by kernel_rfl))) (RdbFs.one (Rdb.slice Try.underlying189 (by kernel_rfl) rdb237)))))))))) (fun y => (⟨y.1, y.2.1, y.2.2.1, y.2.2.2.1, y.2.2.2.2.1, y.2.2.2.2.2.1, y.2.2.2.2.2.2.1, y.2.2.2.2.2.2.2⟩ : S191)) (fun _ => rfl)
def ok63 (x : S63) : Prop := (x.f0.length ≤ 9223372036854775807 ∧ ∀ y ∈ x.f0, ok191 y)
set_option maxRecDepth 100000 in
theorem rdb63 : Rdb k63 Try.prog 63 ok63 := Rdb.iso (f := fun x : S63 => x.f0) (Rdb.struct Try.underlying63 (by kernel_rfl) [(61, 0)] rfl (RdbFs.one (Rdb.slice Try.underlying61 (by kernel_rfl) rdb191))) (fun y => (⟨y⟩ : S63)) (fun _ => rfl)
end Go.Proofs.Ythegbhfoleiegaa.All


/- Plain laws of the printed functions: eventually (Ev), step by step; loops over a list. -/
namespace Go.Proofs.Ythegbhfoleiegaa.All
open Go.RowKit Go.Proofs.YthegbhfoleiegaaW.PrintWords Go.Proofs.YthegbhfoleiegaaW.PrintLast Go.Proofs.YthegbhfoleiegaaW.PrintMore
set_option linter.unusedVariables false
set_option linter.unusedSimpArgs false
theorem Ev.succ {α : Type} {g : Nat → Option α} {r : α} (h : Ev (fun k => g (k + 1)) r) : Ev g r := by
  obtain ⟨K, hK⟩ := h
  refine ⟨K + 1, fun k hk => ?_⟩
  obtain ⟨m, rfl⟩ : ∃ m, k = m + 1 := ⟨k - 1, by omega⟩
  exact hK m (by omega)
theorem Ev.pos {α : Type} {c : Prop} [Decidable c] {g h : Nat → Option α} {r : α} (hc : c) (k : Ev g r) : Ev (fun n => if c then g n else h n) r := Ev.congr (fun n => if_pos hc) k
theorem Ev.neg {α : Type} {c : Prop} [Decidable c] {g h : Nat → Option α} {r : α} (hc : ¬ c) (k : Ev h r) : Ev (fun n => if c then g n else h n) r := Ev.congr (fun n => if_neg hc) k
theorem Ev.some_bind {α β : Type} {a : α} {f : Nat → α → Option β} {r : β} (k : Ev (fun n => f n a) r) : Ev (fun n => (some a).bind (f n)) r := k
theorem Ev.eq_bind {α β : Type} {o : Option α} {a : α} {f : Nat → α → Option β} {r : β} (h : o = some a) (k : Ev (fun n => f n a) r) : Ev (fun n => o.bind (f n)) r := by subst h; exact k
theorem Ev.some {α : Type} {a r : α} (h : a = r) : Ev (fun _ => some a) r := h ▸ Ev.now a
theorem wrap64_id {x : Int} (h1 : -9223372036854775808 ≤ x) (h2 : x ≤ 9223372036854775807) : wrap64 x = x := by unfold wrap64; omega
theorem wrap64_nat {i : Nat} (h : i < 9223372036854775807) : wrap64 ((i : Int) + 1) = ((i + 1 : Nat) : Int) := by rw [wrap64_id (by omega) (by omega)]; rfl
theorem getD_eq {α : Type} {xs : List α} {i : Nat} (h : i < xs.length) (z : α) : xs.getD i z = xs[i] := by rw [List.getD_eq_getElem?_getD, List.getElem?_eq_getElem h]; rfl
/-- A loop that fills a list of the same length. -/
theorem to_gen {α β : Type} (f : α → β) (z : β) (za : α) (xs : List α) (g : Nat → List β → Int → Option (List β))
    (hstep : ∀ (i : Nat) (out : List β) (r : List β), i < xs.length → out.length = xs.length → Ev (fun k => g k (out.set i (f (xs.getD i za))) ((i + 1 : Nat) : Int)) r → Ev (fun k => g k out (i : Int)) r)
    (hend : ∀ out : List β, out.length = xs.length → Ev (fun k => g k out (xs.length : Int)) out) : Ev (fun k => g k (List.replicate xs.length z) 0) (xs.map f) := by
  have key : ∀ d i : Nat, i + d = xs.length → Ev (fun k => g k ((xs.map f).take i ++ List.replicate (xs.length - i) z) (i : Int)) (xs.map f) := by
    intro d
    induction d with
    | zero =>
      intro i hi
      obtain rfl : i = xs.length := by omega
      rw [Nat.sub_self, List.replicate_zero, List.append_nil, List.take_of_length_le (by simp)]
      exact hend _ (by simp)
    | succ d ih =>
      intro i hi
      have h1 := ih (i + 1) (by omega)
      refine hstep i _ _ (by omega) (by simp; omega) ?_
      have e : ((xs.map f).take i ++ List.replicate (xs.length - i) z).set i (f (xs.getD i za)) = (xs.map f).take (i + 1) ++ List.replicate (xs.length - (i + 1)) z := by
        have hl : ((xs.map f).take i).length = i := by simp; omega
        rw [List.set_append_right _ _ (by omega), hl, Nat.sub_self]
        obtain ⟨m, hm⟩ : ∃ m, xs.length - i = m + 1 := ⟨xs.length - i - 1, by omega⟩
        rw [hm, List.replicate_succ, List.set_cons_zero, List.take_succ_eq_append_getElem (by simp; omega), show xs.length - (i + 1) = m by omega, List.append_assoc]
        congr 1
        simp [List.getElem?_eq_getElem (show i < xs.length by omega)]
      rw [e]
      exact h1
  have h0 := key xs.length 0 (by omega)
  simpa using h0
/-- A loop whose end is r, whatever happens on the way. -/
theorem for_gen {ρ : Type} (r : ρ) (n : Nat) (g : Nat → Int → Option ρ) (hstep : ∀ i : Nat, i < n → Ev (fun k => g k ((i + 1 : Nat) : Int)) r → Ev (fun k => g k (i : Int)) r) (hend : Ev (fun k => g k (n : Int)) r) : Ev (fun k => g k 0) r := by
  have key : ∀ d i : Nat, i + d = n → Ev (fun k => g k (i : Int)) r := by
    intro d
    induction d with
    | zero => intro i hi; obtain rfl : i = n := by omega
              exact hend
    | succ d ih => intro i hi; exact hstep i (by omega) (ih (i + 1) (by omega))
  exact key n 0 (by omega)
/-- A loop that says yes at each step. -/
theorem all_gen (n : Nat) (g : Nat → Int → Option Bool) (hstep : ∀ i : Nat, i < n → Ev (fun k => g k ((i + 1 : Nat) : Int)) true → Ev (fun k => g k (i : Int)) true) (hend : Ev (fun k => g k (n : Int)) true) : Ev (fun k => g k 0) true := for_gen true n g hstep hend
/-- A loop that writes each element anew, by its number. -/
theorem mk_gen {β ρ : Type} (f : Nat → β) (xs : List β) (fin : List β → ρ) (g : Nat → List β → Int → Option ρ)
    (hstep : ∀ (i : Nat) (out : List β) (r : ρ), i < xs.length → out.length = xs.length → Ev (fun k => g k (out.set i (f i)) ((i + 1 : Nat) : Int)) r → Ev (fun k => g k out (i : Int)) r)
    (hend : ∀ out : List β, out.length = xs.length → Ev (fun k => g k out (xs.length : Int)) (fin out)) : Ev (fun k => g k xs 0) (fin ((List.range xs.length).map f)) := by
  have key : ∀ d i : Nat, i + d = xs.length → Ev (fun k => g k ((List.range i).map f ++ xs.drop i) (i : Int)) (fin ((List.range xs.length).map f)) := by
    intro d
    induction d with
    | zero =>
      intro i hi
      obtain rfl : i = xs.length := by omega
      rw [List.drop_length, List.append_nil]
      exact hend _ (by simp)
    | succ d ih =>
      intro i hi
      have h1 := ih (i + 1) (by omega)
      refine hstep i _ _ (by omega) (by simp; omega) ?_
      have e : ((List.range i).map f ++ xs.drop i).set i (f i) = (List.range (i + 1)).map f ++ xs.drop (i + 1) := by
        have hl : ((List.range i).map f).length = i := by simp
        rw [List.set_append_right _ _ (by omega), hl, Nat.sub_self, List.drop_eq_getElem_cons (show i < xs.length by omega), List.set_cons_zero, List.range_succ, List.map_append, List.append_assoc]
        rfl
      rw [e]
      exact h1
  have h0 := key xs.length 0 (by omega)
  simpa using h0
/-- A loop that takes sizes off; below 0 it ends with -1. -/
theorem sz_gen {α : Type} (s : α → Nat) (za : α) (xs : List α) (g : Nat → Int → Int → Option Int)
    (hstep : ∀ (i : Nat) (a r : Int), i < xs.length → 0 ≤ a → a ≤ 1048576 → (if (s (xs.getD i za) : Int) ≤ a then Ev (fun k => g k (a - s (xs.getD i za)) ((i + 1 : Nat) : Int)) r else r = -1) → Ev (fun k => g k a (i : Int)) r)
    (hend : ∀ a : Int, Ev (fun k => g k a (xs.length : Int)) a) (a : Int) (h0 : 0 ≤ a) (h1 : a ≤ 1048576) : Ev (fun k => g k a 0) (if ((xs.map s).sum : Int) ≤ a then a - (xs.map s).sum else -1) := by
  have key : ∀ d i : Nat, i + d = xs.length → ∀ a : Int, 0 ≤ a → a ≤ 1048576 → Ev (fun k => g k a (i : Int)) (if ((((xs.drop i).map s).sum : Nat) : Int) ≤ a then a - (((xs.drop i).map s).sum : Nat) else -1) := by
    intro d
    induction d with
    | zero =>
      intro i hi a h0 h1
      obtain rfl : i = xs.length := by omega
      rw [List.drop_length]
      simp [h0]
      exact hend a
    | succ d ih =>
      intro i hi a h0 h1
      have hlt : i < xs.length := by omega
      refine hstep i a _ hlt h0 h1 ?_
      rw [List.drop_eq_getElem_cons hlt, List.map_cons, List.sum_cons, getD_eq hlt]
      split
      · rename_i hc
        have h2 := ih (i + 1) (by omega) (a - (s xs[i] : Nat)) (by omega) (by omega)
        have e : (if ((((xs.drop (i + 1)).map s).sum : Nat) : Int) ≤ a - (s xs[i] : Nat) then a - (s xs[i] : Nat) - (((xs.drop (i + 1)).map s).sum : Nat) else -1) = (if ((s xs[i] + ((xs.drop (i + 1)).map s).sum : Nat) : Int) ≤ a then a - (s xs[i] + ((xs.drop (i + 1)).map s).sum : Nat) else -1) := by
          split <;> split <;> omega
        rw [← e]
        exact h2
      · rename_i hc
        rw [if_neg (by omega)]
  have h2 := key xs.length 0 (by omega) a h0 h1
  simpa using h2
theorem sum_getD_le {α : Type} (s : α → Nat) (z : α) : ∀ (xs : List α) (i : Nat), i < xs.length → s (xs.getD i z) ≤ (xs.map s).sum
  | x :: xs, 0, _ => by simp
  | x :: xs, i + 1, h => by
    have := sum_getD_le s z xs i (by simpa using h)
    simp only [List.getD_cons_succ, List.map_cons, List.sum_cons] at this ⊢
    omega
end Go.Proofs.Ythegbhfoleiegaa.All


/- Plain laws of the laws' sz, to and eq over ObjectS. Printed by gen_plain.py. -/
namespace Go.Proofs.Ythegbhfoleiegaa.All
open Go.RowKit Go.Proofs.YthegbhfoleiegaaW.PrintWords Go.Proofs.YthegbhfoleiegaaW.PrintLast Go.Proofs.YthegbhfoleiegaaW.PrintMore
set_option linter.unusedVariables false
set_option linter.unusedSimpArgs false
theorem sz_bind {s1 s2 : Nat} {a : Int} {g : Nat → Option Int} {G : Nat → Int → Option Int} (h : Ev g (if (s1 : Int) ≤ a then a - (s1 : Int) else -1)) (h2 : (s1 : Int) ≤ a → Ev (fun k => G k (a - (s1 : Int))) (if (s2 : Int) ≤ a - (s1 : Int) then a - (s1 : Int) - (s2 : Int) else -1)) : Ev (fun k => (g k).bind fun t => if t < 0 then some (-1) else G k t) (if ((s1 + s2 : Nat) : Int) ≤ a then a - ((s1 + s2 : Nat) : Int) else -1) := by
  by_cases c : (s1 : Int) ≤ a
  · rw [if_pos c] at h
    refine Ev.bind h (Ev.neg (by omega) ?_)
    have e : (if (s2 : Int) ≤ a - (s1 : Int) then a - (s1 : Int) - (s2 : Int) else -1) = (if ((s1 + s2 : Nat) : Int) ≤ a then a - ((s1 + s2 : Nat) : Int) else -1) := by split <;> split <;> omega
    rw [← e]
    exact h2 c
  · rw [if_neg c] at h
    rw [if_neg (by omega)]
    exact Ev.bind h (Ev.pos (by omega) (Ev.now _))
theorem sz_str {s1 s2 : Nat} {a : Int} {G : Nat → Option Int} (h2 : (s1 : Int) ≤ a → Ev G (if (s2 : Int) ≤ a - (s1 : Int) then a - (s1 : Int) - (s2 : Int) else -1)) : Ev (fun k => if a - (s1 : Int) < 0 then some (-1) else G k) (if ((s1 + s2 : Nat) : Int) ≤ a then a - ((s1 + s2 : Nat) : Int) else -1) := by
  by_cases c : (s1 : Int) ≤ a
  · have e : (if (s2 : Int) ≤ a - (s1 : Int) then a - (s1 : Int) - (s2 : Int) else -1) = (if ((s1 + s2 : Nat) : Int) ≤ a then a - ((s1 + s2 : Nat) : Int) else -1) := by split <;> split <;> omega
    rw [← e]
    exact Ev.neg (by omega) (h2 c)
  · rw [if_neg (by omega)]
    exact Ev.pos (by omega) (Ev.now _)
theorem sz_end (a : Int) (h : 0 ≤ a) : Ev (fun _ => some a) (if ((0 : Nat) : Int) ≤ a then a - ((0 : Nat) : Int) else -1) := by
  rw [if_pos (by omega)]
  exact Ev.some (by omega)
theorem szInt64S_f (l : List Int) (a : Int) (h0 : 0 ≤ a) (h1 : a ≤ 1048576) (hl : l.length ≤ 9223372036854775807) : Ev (fun k => laws_szInt64S.f l a) (if (l.length : Int) ≤ a then a - (l.length : Int) else -1) := by
  unfold laws_szInt64S.f; rw [wrap64_id (by omega) (by omega)]
  by_cases h : (l.length : Int) ≤ a
  · rw [if_pos h]; exact Ev.neg (by omega) (Ev.now _)
  · rw [if_neg h]; exact Ev.pos (by omega) (Ev.now _)
theorem toInt64S_f (l : List Int) (hl : l.length ≤ 1048576) : Ev (fun k => laws_toInt64S.f k l) l := by
  unfold laws_toInt64S.f
  refine Ev.pos (by omega) (Ev.pos (by omega) ?_)
  have h := to_gen (fun x : Int => x) 0 0 l (fun k out i => laws_toInt64S.l0 k l out i) (fun i out r hi ho h => by
    refine Ev.succ ?_
    simp only [laws_toInt64S.l0]
    refine Ev.pos (by omega) (Ev.pos (by omega) (Ev.pos (by omega) ?_))
    rw [wrap64_nat (by omega)]
    simpa [rd] using h) (fun out _ => by
    refine Ev.succ ?_
    simp only [laws_toInt64S.l0]
    exact Ev.neg (by omega) (Ev.now _))
  simpa using h
theorem eqInt64S_f (l : List Int) (hl : l.length ≤ 1048576) : Ev (fun k => laws_eqInt64S.f k l l) true := by
  unfold laws_eqInt64S.f
  refine Ev.pos rfl (all_gen l.length (fun k i => laws_eqInt64S.l0 k l l i) (fun i hi h => ?_) ?_)
  · refine Ev.succ ?_
    simp only [laws_eqInt64S.l0]
    rw [wrap64_nat (by omega)]
    exact Ev.pos (by omega) (Ev.pos (by omega) (Ev.pos (by omega) (Ev.pos (by trivial) h)))
  · refine Ev.succ ?_
    simp only [laws_eqInt64S.l0]
    exact Ev.neg (by omega) (Ev.now _)
theorem szByteS_f (l : List Int) (a : Int) (h0 : 0 ≤ a) (h1 : a ≤ 1048576) (hl : l.length ≤ 9223372036854775807) : Ev (fun k => laws_szByteS.f l a) (if (l.length : Int) ≤ a then a - (l.length : Int) else -1) := by
  unfold laws_szByteS.f; rw [wrap64_id (by omega) (by omega)]
  by_cases h : (l.length : Int) ≤ a
  · rw [if_pos h]; exact Ev.neg (by omega) (Ev.now _)
  · rw [if_neg h]; exact Ev.pos (by omega) (Ev.now _)
theorem toByteS_f (l : List Int) (hl : l.length ≤ 1048576) : Ev (fun k => laws_toByteS.f k l) l := by
  unfold laws_toByteS.f
  refine Ev.pos (by omega) (Ev.pos (by omega) ?_)
  have h := to_gen (fun x : Int => x) 0 0 l (fun k out i => laws_toByteS.l0 k l out i) (fun i out r hi ho h => by
    refine Ev.succ ?_
    simp only [laws_toByteS.l0]
    refine Ev.pos (by omega) (Ev.pos (by omega) (Ev.pos (by omega) ?_))
    rw [wrap64_nat (by omega)]
    simpa [rd] using h) (fun out _ => by
    refine Ev.succ ?_
    simp only [laws_toByteS.l0]
    exact Ev.neg (by omega) (Ev.now _))
  simpa using h
theorem eqByteS_f (l : List Int) (hl : l.length ≤ 1048576) : Ev (fun k => laws_eqByteS.f k l l) true := by
  unfold laws_eqByteS.f
  refine Ev.pos rfl (all_gen l.length (fun k i => laws_eqByteS.l0 k l l i) (fun i hi h => ?_) ?_)
  · refine Ev.succ ?_
    simp only [laws_eqByteS.l0]
    rw [wrap64_nat (by omega)]
    exact Ev.pos (by omega) (Ev.pos (by omega) (Ev.pos (by omega) (Ev.pos (by trivial) h)))
  · refine Ev.succ ?_
    simp only [laws_eqByteS.l0]
    exact Ev.neg (by omega) (Ev.now _)
def iReloc (x : S237) : S132 := ⟨x.f0, x.f1, x.f2⟩
def sReloc (x : S237) : Nat := x.f2.size + (0)
def lReloc (x : S237) : Prop := x.f2.size ≤ 9223372036854775807
def bReloc (x : S132) : Prop := True
theorem szReloc_f (x : S237) (a : Int) (h0 : 0 ≤ a) (h1 : a ≤ 1048576) (hx : lReloc x) : Ev (fun k => laws_szReloc.f x.f0 x.f1 x.f2 a) (if (sReloc x : Int) ≤ a then a - (sReloc x : Int) else -1) := by
  have k0 : x.f2.size ≤ 9223372036854775807 := hx
  unfold laws_szReloc.f sReloc
  rw [wrap64_id (by omega) (by omega)]
  refine sz_str (fun e0 => ?_)
  exact sz_end _ (by omega)
theorem toReloc_f (x : S237) (h : sReloc x ≤ 1048576) : Ev (fun k => laws_toReloc.f x.f0 x.f1 x.f2) (x.f0, x.f1, x.f2) := by
  unfold sReloc at h
  unfold laws_toReloc.f
  exact Ev.now _
theorem eqReloc_f (x : S132) (hb : bReloc x) : Ev (fun k => laws_eqReloc.f x.f0 x.f1 x.f2 x.f0 x.f1 x.f2) true := by
  unfold laws_eqReloc.f
  refine Ev.pos rfl ?_
  refine Ev.pos rfl ?_
  refine Ev.pos rfl ?_
  exact Ev.now _
theorem bReloc_of (x : S237) (h : sReloc x ≤ 1048576) : bReloc (iReloc x) := by
  unfold sReloc at h
  exact trivial
def sRelocS (xs : List S237) : Nat := xs.length + (xs.map sReloc).sum
def lRelocS (xs : List S237) : Prop := xs.length ≤ 9223372036854775807 ∧ ∀ x ∈ xs, lReloc x
def bRelocS (xs : List S132) : Prop := xs.length ≤ 1048576 ∧ ∀ x ∈ xs, bReloc x
theorem szRelocS_f (xs : List S237) (a : Int) (h0 : 0 ≤ a) (h1 : a ≤ 1048576) (hx : lRelocS xs) : Ev (fun k => laws_szRelocS.f k xs a) (if (sRelocS xs : Int) ≤ a then a - (sRelocS xs : Int) else -1) := by
  obtain ⟨hl, hx⟩ := hx
  unfold laws_szRelocS.f
  rw [wrap64_id (by omega) (by omega)]
  by_cases c : (xs.length : Int) ≤ a
  · refine Ev.neg (by omega) ?_
    have h := sz_gen sReloc z237 xs (fun k a i => laws_szRelocS.l0 k xs a i) (fun i a r hi h0 h1 h => by
      refine Ev.succ ?_
      simp only [laws_szRelocS.l0]
      refine Ev.pos (by omega) (Ev.pos (by omega) ?_)
      have hm : lReloc (rd_T237 xs i) := hx _ (by simp only [rd_T237, Int.toNat_natCast]; rw [getD_eq hi]; exact List.getElem_mem hi)
      have e : rd_T237 xs i = xs.getD i z237 := by simp [rd_T237]
      refine Ev.bind (szReloc_f _ a h0 h1 hm) ?_
      rw [e]
      split at h
      · rename_i hc
        rw [if_pos hc, wrap64_nat (by omega)]
        exact Ev.neg (by omega) h
      · rename_i hc
        rw [if_neg hc]
        exact Ev.pos (by omega) (Ev.some h.symm)) (fun a => by
      refine Ev.succ ?_
      simp only [laws_szRelocS.l0]
      exact Ev.neg (by omega) (Ev.now _)) (a - xs.length) (by omega) (by omega)
    have e : (if ((xs.map sReloc).sum : Int) ≤ a - xs.length then a - xs.length - (xs.map sReloc).sum else -1) = (if (sRelocS xs : Int) ≤ a then a - sRelocS xs else -1) := by unfold sRelocS; split <;> split <;> omega
    rw [← e]
    exact h
  · rw [if_neg (by unfold sRelocS; omega)]
    exact Ev.pos (by omega) (Ev.now _)
theorem atRelocS {xs : List S237} {i : Nat} (h : sRelocS xs ≤ 1048576) (hi : i < xs.length) : sReloc (xs.getD i z237) ≤ 1048576 := by
  have := sum_getD_le sReloc z237 xs i hi
  unfold sRelocS at h
  omega
theorem toRelocS_f (l : List S237) (hl : sRelocS l ≤ 1048576) : Ev (fun k => laws_toRelocS.f k l) (l.map iReloc) := by
  unfold laws_toRelocS.f
  have hl1 : l.length ≤ 1048576 := by unfold sRelocS at hl; omega
  refine Ev.pos (by omega) (Ev.pos (by omega) ?_)
  have h := to_gen iReloc z132 z237 l (fun k out i => laws_toRelocS.l0 k l out i) (fun i out r hi ho h => by
    refine Ev.succ ?_
    simp only [laws_toRelocS.l0]
    have e : rd_T237 l i = l.getD i z237 := by simp [rd_T237]
    rw [e]
    refine Ev.pos (by omega) (Ev.pos (by omega) (Ev.bind (toReloc_f _ (atRelocS hl hi)) (Ev.pos (by omega) ?_)))
    rw [wrap64_nat (by omega)]
    exact h) (fun out _ => by
    refine Ev.succ ?_
    simp only [laws_toRelocS.l0]
    exact Ev.neg (by omega) (Ev.now _))
  simpa using h
theorem eqRelocS_f (l : List S132) (hb : bRelocS l) : Ev (fun k => laws_eqRelocS.f k l l) true := by
  obtain ⟨hl, hb⟩ := hb
  unfold laws_eqRelocS.f
  refine Ev.pos rfl (all_gen l.length (fun k i => laws_eqRelocS.l0 k l l i) (fun i hi h => ?_) ?_)
  · refine Ev.succ ?_
    simp only [laws_eqRelocS.l0]
    rw [wrap64_nat (by omega)]
    have hm : bReloc (rd_T132 l i) := hb _ (by simp only [rd_T132, Int.toNat_natCast]; rw [getD_eq hi]; exact List.getElem_mem hi)
    exact Ev.pos (by omega) (Ev.pos (by omega) (Ev.pos (by omega) (Ev.bind (eqReloc_f _ hm) (Ev.pos rfl h))))
  · refine Ev.succ ?_
    simp only [laws_eqRelocS.l0]
    exact Ev.neg (by omega) (Ev.now _)
theorem bRelocS_of (xs : List S237) (h : sRelocS xs ≤ 1048576) : bRelocS (xs.map iReloc) := by
  refine ⟨by rw [List.length_map]; unfold sRelocS at h; omega, fun y hy => ?_⟩
  obtain ⟨x, hx, rfl⟩ := List.mem_map.1 hy
  obtain ⟨i, hi, rfl⟩ := List.getElem_of_mem hx
  have := atRelocS h hi
  rw [getD_eq hi] at this
  exact bReloc_of _ this
def iSection (x : S191) : S130 := ⟨x.f0, x.f1, x.f2, x.f3, x.f4, x.f5, x.f6, (x.f7.map iReloc)⟩
def sSection (x : S191) : Nat := x.f0.size + (x.f4.length + (x.f6.length + (sRelocS x.f7 + (0))))
def lSection (x : S191) : Prop := x.f0.size ≤ 9223372036854775807 ∧ x.f4.length ≤ 9223372036854775807 ∧ x.f6.length ≤ 9223372036854775807 ∧ lRelocS x.f7
def bSection (x : S130) : Prop := x.f4.length ≤ 1048576 ∧ x.f6.length ≤ 1048576 ∧ bRelocS x.f7
theorem szSection_f (x : S191) (a : Int) (h0 : 0 ≤ a) (h1 : a ≤ 1048576) (hx : lSection x) : Ev (fun k => laws_szSection.f k x.f0 x.f1 x.f2 x.f3 x.f4 x.f5 x.f6 x.f7 a) (if (sSection x : Int) ≤ a then a - (sSection x : Int) else -1) := by
  obtain ⟨k0, k1, k2, k3⟩ := hx
  unfold laws_szSection.f sSection
  rw [wrap64_id (by omega) (by omega)]
  refine sz_str (fun e0 => ?_)
  refine sz_bind (szInt64S_f _ _ (by omega) (by omega) k1) (fun e1 => ?_)
  refine sz_bind (szByteS_f _ _ (by omega) (by omega) k2) (fun e2 => ?_)
  refine sz_bind (szRelocS_f _ _ (by omega) (by omega) k3) (fun e3 => ?_)
  exact sz_end _ (by omega)
theorem toSection_f (x : S191) (h : sSection x ≤ 1048576) : Ev (fun k => laws_toSection.f k x.f0 x.f1 x.f2 x.f3 x.f4 x.f5 x.f6 x.f7) (x.f0, x.f1, x.f2, x.f3, x.f4, x.f5, x.f6, (x.f7.map iReloc)) := by
  unfold sSection at h
  unfold laws_toSection.f
  refine Ev.bind (toInt64S_f _ (by omega)) ?_
  refine Ev.bind (toByteS_f _ (by omega)) ?_
  refine Ev.bind (toRelocS_f _ (by omega)) ?_
  exact Ev.now _
theorem eqSection_f (x : S130) (hb : bSection x) : Ev (fun k => laws_eqSection.f k x.f0 x.f1 x.f2 x.f3 x.f4 x.f5 x.f6 x.f7 x.f0 x.f1 x.f2 x.f3 x.f4 x.f5 x.f6 x.f7) true := by
  obtain ⟨k0, k1, k2⟩ := hb
  unfold laws_eqSection.f
  refine Ev.pos rfl ?_
  refine Ev.pos rfl ?_
  refine Ev.pos rfl ?_
  refine Ev.pos rfl ?_
  refine Ev.bind (eqInt64S_f _ k0) (Ev.pos rfl ?_)
  refine Ev.pos rfl ?_
  refine Ev.bind (eqByteS_f _ k1) (Ev.pos rfl ?_)
  refine Ev.bind (eqRelocS_f _ k2) (Ev.pos rfl ?_)
  exact Ev.now _
theorem bSection_of (x : S191) (h : sSection x ≤ 1048576) : bSection (iSection x) := by
  unfold sSection at h
  refine ⟨?_, ?_, ?_⟩
  · show x.f4.length ≤ _; omega
  · show x.f6.length ≤ _; omega
  · exact bRelocS_of _ (by omega)
def sSectionS (xs : List S191) : Nat := xs.length + (xs.map sSection).sum
def lSectionS (xs : List S191) : Prop := xs.length ≤ 9223372036854775807 ∧ ∀ x ∈ xs, lSection x
def bSectionS (xs : List S130) : Prop := xs.length ≤ 1048576 ∧ ∀ x ∈ xs, bSection x
theorem szSectionS_f (xs : List S191) (a : Int) (h0 : 0 ≤ a) (h1 : a ≤ 1048576) (hx : lSectionS xs) : Ev (fun k => laws_szSectionS.f k xs a) (if (sSectionS xs : Int) ≤ a then a - (sSectionS xs : Int) else -1) := by
  obtain ⟨hl, hx⟩ := hx
  unfold laws_szSectionS.f
  rw [wrap64_id (by omega) (by omega)]
  by_cases c : (xs.length : Int) ≤ a
  · refine Ev.neg (by omega) ?_
    have h := sz_gen sSection z191 xs (fun k a i => laws_szSectionS.l0 k xs a i) (fun i a r hi h0 h1 h => by
      refine Ev.succ ?_
      simp only [laws_szSectionS.l0]
      refine Ev.pos (by omega) (Ev.pos (by omega) ?_)
      have hm : lSection (rd_T191 xs i) := hx _ (by simp only [rd_T191, Int.toNat_natCast]; rw [getD_eq hi]; exact List.getElem_mem hi)
      have e : rd_T191 xs i = xs.getD i z191 := by simp [rd_T191]
      refine Ev.bind (szSection_f _ a h0 h1 hm) ?_
      rw [e]
      split at h
      · rename_i hc
        rw [if_pos hc, wrap64_nat (by omega)]
        exact Ev.neg (by omega) h
      · rename_i hc
        rw [if_neg hc]
        exact Ev.pos (by omega) (Ev.some h.symm)) (fun a => by
      refine Ev.succ ?_
      simp only [laws_szSectionS.l0]
      exact Ev.neg (by omega) (Ev.now _)) (a - xs.length) (by omega) (by omega)
    have e : (if ((xs.map sSection).sum : Int) ≤ a - xs.length then a - xs.length - (xs.map sSection).sum else -1) = (if (sSectionS xs : Int) ≤ a then a - sSectionS xs else -1) := by unfold sSectionS; split <;> split <;> omega
    rw [← e]
    exact h
  · rw [if_neg (by unfold sSectionS; omega)]
    exact Ev.pos (by omega) (Ev.now _)
theorem atSectionS {xs : List S191} {i : Nat} (h : sSectionS xs ≤ 1048576) (hi : i < xs.length) : sSection (xs.getD i z191) ≤ 1048576 := by
  have := sum_getD_le sSection z191 xs i hi
  unfold sSectionS at h
  omega
theorem toSectionS_f (l : List S191) (hl : sSectionS l ≤ 1048576) : Ev (fun k => laws_toSectionS.f k l) (l.map iSection) := by
  unfold laws_toSectionS.f
  have hl1 : l.length ≤ 1048576 := by unfold sSectionS at hl; omega
  refine Ev.pos (by omega) (Ev.pos (by omega) ?_)
  have h := to_gen iSection z130 z191 l (fun k out i => laws_toSectionS.l0 k l out i) (fun i out r hi ho h => by
    refine Ev.succ ?_
    simp only [laws_toSectionS.l0]
    have e : rd_T191 l i = l.getD i z191 := by simp [rd_T191]
    rw [e]
    refine Ev.pos (by omega) (Ev.pos (by omega) (Ev.bind (toSection_f _ (atSectionS hl hi)) (Ev.pos (by omega) ?_)))
    rw [wrap64_nat (by omega)]
    exact h) (fun out _ => by
    refine Ev.succ ?_
    simp only [laws_toSectionS.l0]
    exact Ev.neg (by omega) (Ev.now _))
  simpa using h
theorem eqSectionS_f (l : List S130) (hb : bSectionS l) : Ev (fun k => laws_eqSectionS.f k l l) true := by
  obtain ⟨hl, hb⟩ := hb
  unfold laws_eqSectionS.f
  refine Ev.pos rfl (all_gen l.length (fun k i => laws_eqSectionS.l0 k l l i) (fun i hi h => ?_) ?_)
  · refine Ev.succ ?_
    simp only [laws_eqSectionS.l0]
    rw [wrap64_nat (by omega)]
    have hm : bSection (rd_T130 l i) := hb _ (by simp only [rd_T130, Int.toNat_natCast]; rw [getD_eq hi]; exact List.getElem_mem hi)
    exact Ev.pos (by omega) (Ev.pos (by omega) (Ev.pos (by omega) (Ev.bind (eqSection_f _ hm) (Ev.pos rfl h))))
  · refine Ev.succ ?_
    simp only [laws_eqSectionS.l0]
    exact Ev.neg (by omega) (Ev.now _)
theorem bSectionS_of (xs : List S191) (h : sSectionS xs ≤ 1048576) : bSectionS (xs.map iSection) := by
  refine ⟨by rw [List.length_map]; unfold sSectionS at h; omega, fun y hy => ?_⟩
  obtain ⟨x, hx, rfl⟩ := List.mem_map.1 hy
  obtain ⟨i, hi, rfl⟩ := List.getElem_of_mem hx
  have := atSectionS h hi
  rw [getD_eq hi] at this
  exact bSection_of _ this
def iObject (x : S63) : S68 := ⟨(x.f0.map iSection)⟩
def sObject (x : S63) : Nat := sSectionS x.f0 + (0)
def lObject (x : S63) : Prop := lSectionS x.f0
def bObject (x : S68) : Prop := bSectionS x.f0
theorem szObject_f (x : S63) (a : Int) (h0 : 0 ≤ a) (h1 : a ≤ 1048576) (hx : lObject x) : Ev (fun k => laws_szObject.f k x.f0 a) (if (sObject x : Int) ≤ a then a - (sObject x : Int) else -1) := by
  have k0 : lSectionS x.f0 := hx
  unfold laws_szObject.f sObject
  refine sz_bind (szSectionS_f _ _ (by omega) (by omega) k0) (fun e0 => ?_)
  exact sz_end _ (by omega)
theorem toObject_f (x : S63) (h : sObject x ≤ 1048576) : Ev (fun k => laws_toObject.f k x.f0) (x.f0.map iSection) := by
  unfold sObject at h
  unfold laws_toObject.f
  refine Ev.bind (toSectionS_f _ (by omega)) ?_
  exact Ev.now _
theorem eqObject_f (x : S68) (hb : bObject x) : Ev (fun k => laws_eqObject.f k x.f0 x.f0) true := by
  have k0 := hb
  unfold laws_eqObject.f
  refine Ev.bind (eqSectionS_f _ k0) (Ev.pos rfl ?_)
  exact Ev.now _
theorem bObject_of (x : S63) (h : sObject x ≤ 1048576) : bObject (iObject x) := by
  unfold sObject at h
  refine ?_
  · exact bSectionS_of _ (by omega)
def sObjectS (xs : List S63) : Nat := xs.length + (xs.map sObject).sum
def lObjectS (xs : List S63) : Prop := xs.length ≤ 9223372036854775807 ∧ ∀ x ∈ xs, lObject x
def bObjectS (xs : List S68) : Prop := xs.length ≤ 1048576 ∧ ∀ x ∈ xs, bObject x
theorem szObjectS_f (xs : List S63) (a : Int) (h0 : 0 ≤ a) (h1 : a ≤ 1048576) (hx : lObjectS xs) : Ev (fun k => laws_szObjectS.f k xs a) (if (sObjectS xs : Int) ≤ a then a - (sObjectS xs : Int) else -1) := by
  obtain ⟨hl, hx⟩ := hx
  unfold laws_szObjectS.f
  rw [wrap64_id (by omega) (by omega)]
  by_cases c : (xs.length : Int) ≤ a
  · refine Ev.neg (by omega) ?_
    have h := sz_gen sObject z63 xs (fun k a i => laws_szObjectS.l0 k xs a i) (fun i a r hi h0 h1 h => by
      refine Ev.succ ?_
      simp only [laws_szObjectS.l0]
      refine Ev.pos (by omega) (Ev.pos (by omega) ?_)
      have hm : lObject (rd_T63 xs i) := hx _ (by simp only [rd_T63, Int.toNat_natCast]; rw [getD_eq hi]; exact List.getElem_mem hi)
      have e : rd_T63 xs i = xs.getD i z63 := by simp [rd_T63]
      refine Ev.bind (szObject_f _ a h0 h1 hm) ?_
      rw [e]
      split at h
      · rename_i hc
        rw [if_pos hc, wrap64_nat (by omega)]
        exact Ev.neg (by omega) h
      · rename_i hc
        rw [if_neg hc]
        exact Ev.pos (by omega) (Ev.some h.symm)) (fun a => by
      refine Ev.succ ?_
      simp only [laws_szObjectS.l0]
      exact Ev.neg (by omega) (Ev.now _)) (a - xs.length) (by omega) (by omega)
    have e : (if ((xs.map sObject).sum : Int) ≤ a - xs.length then a - xs.length - (xs.map sObject).sum else -1) = (if (sObjectS xs : Int) ≤ a then a - sObjectS xs else -1) := by unfold sObjectS; split <;> split <;> omega
    rw [← e]
    exact h
  · rw [if_neg (by unfold sObjectS; omega)]
    exact Ev.pos (by omega) (Ev.now _)
theorem atObjectS {xs : List S63} {i : Nat} (h : sObjectS xs ≤ 1048576) (hi : i < xs.length) : sObject (xs.getD i z63) ≤ 1048576 := by
  have := sum_getD_le sObject z63 xs i hi
  unfold sObjectS at h
  omega
theorem toObjectS_f (l : List S63) (hl : sObjectS l ≤ 1048576) : Ev (fun k => laws_toObjectS.f k l) (l.map iObject) := by
  unfold laws_toObjectS.f
  have hl1 : l.length ≤ 1048576 := by unfold sObjectS at hl; omega
  refine Ev.pos (by omega) (Ev.pos (by omega) ?_)
  have h := to_gen iObject z68 z63 l (fun k out i => laws_toObjectS.l0 k l out i) (fun i out r hi ho h => by
    refine Ev.succ ?_
    simp only [laws_toObjectS.l0]
    have e : rd_T63 l i = l.getD i z63 := by simp [rd_T63]
    rw [e]
    refine Ev.pos (by omega) (Ev.pos (by omega) (Ev.bind (toObject_f _ (atObjectS hl hi)) (Ev.pos (by omega) ?_)))
    rw [wrap64_nat (by omega)]
    exact h) (fun out _ => by
    refine Ev.succ ?_
    simp only [laws_toObjectS.l0]
    exact Ev.neg (by omega) (Ev.now _))
  simpa using h
theorem eqObjectS_f (l : List S68) (hb : bObjectS l) : Ev (fun k => laws_eqObjectS.f k l l) true := by
  obtain ⟨hl, hb⟩ := hb
  unfold laws_eqObjectS.f
  refine Ev.pos rfl (all_gen l.length (fun k i => laws_eqObjectS.l0 k l l i) (fun i hi h => ?_) ?_)
  · refine Ev.succ ?_
    simp only [laws_eqObjectS.l0]
    rw [wrap64_nat (by omega)]
    have hm : bObject (rd_T68 l i) := hb _ (by simp only [rd_T68, Int.toNat_natCast]; rw [getD_eq hi]; exact List.getElem_mem hi)
    exact Ev.pos (by omega) (Ev.pos (by omega) (Ev.pos (by omega) (Ev.bind (eqObject_f _ hm) (Ev.pos rfl h))))
  · refine Ev.succ ?_
    simp only [laws_eqObjectS.l0]
    exact Ev.neg (by omega) (Ev.now _)
theorem bObjectS_of (xs : List S63) (h : sObjectS xs ≤ 1048576) : bObjectS (xs.map iObject) := by
  refine ⟨by rw [List.length_map]; unfold sObjectS at h; omega, fun y hy => ?_⟩
  obtain ⟨x, hx, rfl⟩ := List.mem_map.1 hy
  obtain ⟨i, hi, rfl⟩ := List.getElem_of_mem hx
  have := atObjectS h hi
  rw [getD_eq hi] at this
  exact bObject_of _ this
end Go.Proofs.Ythegbhfoleiegaa.All


/- Plain laws: a row of places, marked and found marked, compared. -/
namespace Go.Proofs.Ythegbhfoleiegaa.All
open Go.RowKit Go.Proofs.YthegbhfoleiegaaW.PrintWords Go.Proofs.YthegbhfoleiegaaW.PrintLast Go.Proofs.YthegbhfoleiegaaW.PrintMore
set_option linter.unusedVariables false
set_option linter.unusedSimpArgs false
def marksP (n : Nat) : List S125 := (List.range n).map fun (j : Nat) => ⟨(1 : Int) + 2 * (j : Int), (1 : Int) + 2 * (j : Int) + 1⟩
theorem marksP_length (n : Nat) : (marksP n).length = n := by simp [marksP]
theorem marksP_at (n i : Nat) (h : i < n) : rd_T125 (marksP n) i = ⟨(1 : Int) + 2 * (i : Int), (1 : Int) + 2 * (i : Int) + 1⟩ := by
  simp [rd_T125, marksP, List.getElem?_range, h]
theorem markPlaceS_f (l : List S125) (hl : l.length ≤ 1000000000) : Ev (fun k => laws_markPlaceS.f k l 1) ((1 : Int) + 2 * (l.length : Nat), marksP l.length) := by
  unfold laws_markPlaceS.f marksP
  refine mk_gen (fun (j : Nat) => (⟨(1 : Int) + 2 * (j : Int), (1 : Int) + 2 * (j : Int) + 1⟩ : S125)) l (fun out => ((1 : Int) + 2 * (l.length : Nat), out)) (fun k out i => laws_markPlaceS.l0 k out (1 + 2 * i) i) (fun i out r hi ho h => ?_) (fun out ho => ?_)
  · refine Ev.succ ?_
    simp only [laws_markPlaceS.l0]
    refine Ev.pos (by omega) (Ev.pos (by omega) (Ev.some_bind ?_))
    rw [wrap64_nat (by omega), wrap64_id (x := 1 + 2 * (i : Int) + 1) (by omega) (by omega), wrap64_id (x := 1 + 2 * (i : Int) + 1 + 1) (by omega) (by omega)]
    have e : (1 : Int) + 2 * ((i + 1 : Nat) : Int) = 1 + 2 * (i : Int) + 1 + 1 := by omega
    rw [e] at h
    have hi2 : i < out.length := by omega
    simpa [rd_T125, hi2] using h
  · refine Ev.succ ?_
    simp only [laws_markPlaceS.l0]
    exact Ev.neg (by omega) (Ev.now _)
theorem heldPlaceS_f (n : Nat) (hl : n ≤ 1000000000) : Ev (fun k => laws_heldPlaceS.f k (marksP n) 1) ((1 : Int) + 2 * (n : Nat)) := by
  unfold laws_heldPlaceS.f
  refine for_gen ((1 : Int) + 2 * (n : Nat)) n (fun k i => laws_heldPlaceS.l0 k (marksP n) (1 + 2 * i) i) (fun i hi h => ?_) ?_
  · refine Ev.succ ?_
    simp only [laws_heldPlaceS.l0]
    rw [marksP_at n i hi, wrap64_nat (by omega), wrap64_id (x := 1 + 2 * (i : Int) + 1) (by omega) (by omega), wrap64_id (x := 1 + 2 * (i : Int) + 1 + 1) (by omega) (by omega)]
    refine Ev.pos (by rw [marksP_length]; omega) (Ev.pos (by omega) (Ev.pos rfl (Ev.pos rfl ?_)))
    have e : (1 : Int) + 2 * ((i + 1 : Nat) : Int) = 1 + 2 * (i : Int) + 1 + 1 := by omega
    rw [e] at h
    exact h
  · refine Ev.succ ?_
    simp only [laws_heldPlaceS.l0]
    exact Ev.neg (by rw [marksP_length]; omega) (Ev.now _)
theorem eqPlaceS_f (l : List S125) (hl : l.length ≤ 9223372036854775806) : Ev (fun k => laws_eqPlaceS.f k l l) true := by
  unfold laws_eqPlaceS.f
  refine Ev.pos rfl (all_gen l.length (fun k i => laws_eqPlaceS.l0 k l l i) (fun i hi h => ?_) ?_)
  · refine Ev.succ ?_
    simp only [laws_eqPlaceS.l0]
    rw [wrap64_nat (by omega)]
    exact Ev.pos (by omega) (Ev.pos (by omega) (Ev.pos (by omega) (Ev.eq_bind (a := true) (by simp [laws_eqPlace.f]) (Ev.pos rfl h))))
  · refine Ev.succ ?_
    simp only [laws_eqPlaceS.l0]
    exact Ev.neg (by omega) (Ev.now _)
end Go.Proofs.Ythegbhfoleiegaa.All


/- Plain laws: spec.l20Of answers as spotN does. -/
namespace Go.Proofs.Ythegbhfoleiegaa.All
open Go.RowKit Go.Proofs.YthegbhfoleiegaaW.PrintWords Go.Proofs.YthegbhfoleiegaaW.PrintLast Go.Proofs.YthegbhfoleiegaaW.PrintMore
set_option linter.unusedVariables false
set_option linter.unusedSimpArgs false
theorem idx_some {α : Type} {p : α → Bool} {l : List α} {z : α} {k : Nat} (h : l.findIdx? p = some k) : k < l.length ∧ p (l.getD k z) = true ∧ ∀ j, j < k → p (l.getD j z) = false := by
  rw [List.findIdx?_eq_some_iff_getElem] at h
  obtain ⟨h1, h2, h3⟩ := h
  refine ⟨h1, ?_, fun j hj => ?_⟩
  · rw [List.getD_eq_getElem?_getD, List.getElem?_eq_getElem h1]; exact h2
  · have := h3 j hj
    rw [List.getD_eq_getElem?_getD, List.getElem?_eq_getElem (by omega)]
    simpa using this
theorem idx_none {α : Type} {p : α → Bool} {l : List α} {z : α} (h : l.findIdx? p = none) : ∀ j, j < l.length → p (l.getD j z) = false := by
  rw [List.findIdx?_eq_none_iff] at h
  intro j hj
  rw [List.getD_eq_getElem?_getD, List.getElem?_eq_getElem hj]
  exact h _ (List.getElem_mem _)
theorem secHit_t {nm : ByteArray} {lk : Int} {s : S130} (h : secHit nm lk s = true) : s.f0.toList = nm.toList ∧ s.f2 = lk := by
  unfold secHit at h
  rw [Bool.and_eq_true, beq_iff_eq, beq_iff_eq] at h
  exact h
theorem secHit_n {nm : ByteArray} {lk : Int} {s : S130} (h : secHit nm lk s = false) (h1 : s.f0.toList = nm.toList) : s.f2 ≠ lk := by
  intro h2
  unfold secHit at h
  rw [h1, h2] at h
  simp at h
theorem rdO (l : List (S68)) (i : Nat) : rd_T68 l (i : Int) = l.getD i z68 := by simp [rd_T68]
theorem rdS (l : List (S130)) (i : Nat) : rd_T130 l (i : Int) = l.getD i z130 := by simp [rd_T130]
section
variable {l : List (S68)} {nm : ByteArray}
theorem l3_step {lk : Int} {i : Nat} (hi : i < l.length) {a b : Int} {k : Nat} (hk : k < (l.getD i z68).f0.length) (hk9 : k < 9223372036854775807) (hn : secHit nm lk ((l.getD i z68).f0.getD k z130) = false) {r : Int × Int}
    (h : Ev (fun K => spec_l20Of.l3 K l nm lk i ((k + 1 : Nat) : Int) a b) r) : Ev (fun K => spec_l20Of.l3 K l nm lk i (k : Int) a b) r := by
  refine Ev.succ ?_
  simp only [spec_l20Of.l3]
  rw [rdO, rdS, wrap64_nat hk9]
  refine Ev.pos (by omega) (Ev.pos (by omega) (Ev.pos (by omega) (Ev.pos (by omega) ?_)))
  by_cases h1 : ((l.getD i z68).f0.getD k z130).f0.toList = nm.toList
  · exact Ev.pos h1 (Ev.neg (secHit_n hn h1) h)
  · exact Ev.neg h1 h
theorem l3_hit {lk : Int} {i : Nat} (hi : i < l.length) (h9 : (l.getD i z68).f0.length ≤ 1000000000) {a b : Int} {k : Nat} (h : secAt nm lk (l.getD i z68) = some k) :
    Ev (fun K => spec_l20Of.l3 K l nm lk i 0 a b) ((i : Int), (k : Int)) := by
  obtain ⟨h1, h2, h3⟩ := idx_some (z := z130) h
  refine for_gen ((i : Int), (k : Int)) k (fun K x => spec_l20Of.l3 K l nm lk i x a b) (fun j hj hs => l3_step hi (by omega) (by omega) (h3 j hj) hs) ?_
  refine Ev.succ ?_
  simp only [spec_l20Of.l3]
  rw [rdO, rdS]
  obtain ⟨e1, e2⟩ := secHit_t h2
  exact Ev.pos (by omega) (Ev.pos (by omega) (Ev.pos (by omega) (Ev.pos (by omega) (Ev.pos e1 (Ev.pos e2 (Ev.now _))))))
theorem l3_no {lk : Int} {i : Nat} (hi : i < l.length) (hl : l.length ≤ 1000000000) (h9 : (l.getD i z68).f0.length ≤ 1000000000) {a b : Int} {r : Int × Int} (h : secAt nm lk (l.getD i z68) = none)
    (hK : Ev (fun K => spec_l20Of.l2 K l nm lk ((i + 1 : Nat) : Int) a b) r) : Ev (fun K => spec_l20Of.l3 K l nm lk i 0 a b) r := by
  have h3 := idx_none (z := z130) h
  refine for_gen r (l.getD i z68).f0.length (fun K x => spec_l20Of.l3 K l nm lk i x a b) (fun j hj hs => l3_step hi hj (by omega) (h3 j hj) hs) ?_
  refine Ev.succ ?_
  simp only [spec_l20Of.l3]
  rw [rdO, wrap64_nat (i := i) (by omega)]
  exact Ev.pos (by omega) (Ev.pos (by omega) (Ev.neg (by omega) hK))
theorem okN_get (h : okN l) {i : Nat} (hi : i < l.length) : (l.getD i z68).f0.length ≤ 1000000000 := h.2 _ (getD_mem_ hi)
theorem l2_step {lk : Int} (ho : okN l) {i : Nat} (hi : i < l.length) {a b : Int} {r : Int × Int} (h : secAt nm lk (l.getD i z68) = none) (hK : Ev (fun K => spec_l20Of.l2 K l nm lk ((i + 1 : Nat) : Int) a b) r) :
    Ev (fun K => spec_l20Of.l2 K l nm lk (i : Int) a b) r := by
  refine Ev.succ ?_
  simp only [spec_l20Of.l2]
  exact Ev.pos (by omega) (l3_no hi ho.1 (okN_get ho hi) h hK)
theorem l2_hit {lk : Int} (ho : okN l) {a b : Int} {q : Int × Int} (h : objAt l nm lk = some q) : Ev (fun K => spec_l20Of.l2 K l nm lk 0 a b) q := by
  unfold objAt at h
  obtain ⟨i, hi, h⟩ := Option.bind_eq_some_iff.1 h
  obtain ⟨k, hk, rfl⟩ := Option.map_eq_some_iff.1 h
  obtain ⟨h1, _, h3⟩ := idx_some (z := z68) hi
  refine for_gen ((i : Int), (k : Int)) i (fun K x => spec_l20Of.l2 K l nm lk x a b) (fun j hj hs => l2_step ho (by omega) (by have := h3 j hj; simpa using this) hs) ?_
  refine Ev.succ ?_
  simp only [spec_l20Of.l2]
  exact Ev.pos (by omega) (l3_hit h1 (okN_get ho h1) hk)
theorem objAt_none {lk : Int} (h : objAt l nm lk = none) : ∀ j, j < l.length → secAt nm lk (l.getD j z68) = none := by
  unfold objAt at h
  rcases hf : (l.findIdx? fun o => (secAt nm lk o).isSome) with _ | i
  · intro j hj
    have := idx_none (z := z68) hf j hj
    simpa using this
  · rw [hf, Option.bind_some, Option.map_eq_none_iff] at h
    obtain ⟨_, h2, _⟩ := idx_some (z := z68) hf
    rw [h] at h2
    cases h2
theorem l2_no {lk : Int} (ho : okN l) {a b : Int} {r : Int × Int} (h : objAt l nm lk = none) (hlk : lk ≤ 2) (hlk0 : 0 ≤ lk) (hK : Ev (fun K => spec_l20Of.l1 K l nm (lk + 1) a b) r) : Ev (fun K => spec_l20Of.l2 K l nm lk 0 a b) r := by
  have h3 := objAt_none h
  refine for_gen r l.length (fun K x => spec_l20Of.l2 K l nm lk x a b) (fun j hj hs => l2_step ho hj (h3 j hj) hs) ?_
  refine Ev.succ ?_
  simp only [spec_l20Of.l2]
  rw [wrap64_id (by omega) (by omega)]
  exact Ev.neg (by omega) hK
theorem j1_f (ho : okN l) : Ev (fun K => spec_l20Of.j1 K l nm (-1) (-1)) (((objAt l nm 1).or (objAt l nm 2)).getD (-1, -1)) := by
  refine Ev.succ ?_
  simp only [spec_l20Of.j1]
  refine Ev.succ ?_
  simp only [spec_l20Of.l1]
  refine Ev.pos (by omega) ?_
  rcases h1 : objAt l nm 1 with _ | q
  · refine l2_no ho h1 (by omega) (by omega) ?_
    refine Ev.succ ?_
    simp only [spec_l20Of.l1]
    refine Ev.pos (by omega) ?_
    rcases h2 : objAt l nm 2 with _ | q
    · refine l2_no ho h2 (by omega) (by omega) ?_
      refine Ev.succ ?_
      simp only [spec_l20Of.l1]
      exact Ev.neg (by omega) (Ev.now _)
    · exact l2_hit ho h2
  · exact l2_hit ho h1
/-- What spec.l20Of answers. -/
theorem l20Of_f (ho : okN l) {obj : Int} (h1 : obj < (l.length : Int)) : Ev (fun K => spec_l20Of.f K l obj nm) ((spotN l obj nm).getD (-1, -1)) := by
  unfold spec_l20Of.f spotN
  by_cases h0 : 0 ≤ obj
  · refine Ev.pos h0 ?_
    obtain ⟨i, rfl⟩ : ∃ i : Nat, obj = (i : Int) := ⟨obj.toNat, by omega⟩
    have hi : i < l.length := by omega
    have h9 := okN_get ho hi
    have step : ∀ (r : Int × Int) (k : Nat), k < (l.getD i z68).f0.length → secHit nm 3 ((l.getD i z68).f0.getD k z130) = false → Ev (fun K => spec_l20Of.l0 K l (i : Int) nm ((k + 1 : Nat) : Int) (-1) (-1)) r → Ev (fun K => spec_l20Of.l0 K l (i : Int) nm (k : Int) (-1) (-1)) r := by
      intro r k hk hn h
      refine Ev.succ ?_
      simp only [spec_l20Of.l0]
      rw [rdO, rdS, wrap64_nat (by omega)]
      refine Ev.pos (by omega) (Ev.pos (by omega) (Ev.pos (by omega) (Ev.pos (by omega) ?_)))
      by_cases e1 : ((l.getD i z68).f0.getD k z130).f0.toList = nm.toList
      · exact Ev.pos e1 (Ev.neg (secHit_n hn e1) h)
      · exact Ev.neg e1 h
    unfold locAt
    rw [if_pos h0, rdO]
    rcases hs : secAt nm 3 (l.getD i z68) with _ | k
    · have h3 := idx_none (z := z130) hs
      refine for_gen _ (l.getD i z68).f0.length (fun K x => spec_l20Of.l0 K l (i : Int) nm x (-1) (-1)) (fun j hj h => step _ j hj (h3 j hj) h) ?_
      refine Ev.succ ?_
      simp only [spec_l20Of.l0]
      rw [rdO]
      exact Ev.pos (by omega) (Ev.pos (by omega) (Ev.neg (by omega) (j1_f ho)))
    · obtain ⟨k1, k2, k3⟩ := idx_some (z := z130) hs
      refine for_gen _ k (fun K x => spec_l20Of.l0 K l (i : Int) nm x (-1) (-1)) (fun j hj h => step _ j (by omega) (k3 j hj) h) ?_
      refine Ev.succ ?_
      simp only [spec_l20Of.l0]
      rw [rdO, rdS]
      obtain ⟨e1, e2⟩ := secHit_t k2
      exact Ev.pos (by omega) (Ev.pos (by omega) (Ev.pos (by omega) (Ev.pos (by omega) (Ev.pos e1 (Ev.pos e2 (Ev.now _))))))
  · refine Ev.neg h0 ?_
    unfold locAt
    rw [if_neg h0]
    exact j1_f ho
end
end Go.Proofs.Ythegbhfoleiegaa.All


/- Plain laws: spec.Needed answers as needN does, and it ends. -/
namespace Go.Proofs.Ythegbhfoleiegaa.All
open Go.RowKit Go.Proofs.YthegbhfoleiegaaW.PrintWords Go.Proofs.YthegbhfoleiegaaW.PrintLast Go.Proofs.YthegbhfoleiegaaW.PrintMore
set_option linter.unusedVariables false
set_option linter.unusedSimpArgs false
def eqPl (i k : Int) (x : S125) : Bool := x.f0 == i && (x.f1 == k)
def restP (l : List (S68)) (i : Nat) : List (S125) := ((List.range l.length).drop i).flatMap (rowPl l)
theorem restP_zero (l : List (S68)) : restP l 0 = placesOf l := by unfold restP placesOf; rw [List.drop_zero]
theorem restP_end (l : List (S68)) : restP l l.length = [] := by unfold restP; rw [List.drop_eq_nil_of_le (by simp)]; rfl
theorem restP_succ (l : List (S68)) {i : Nat} (h : i < l.length) : restP l i = rowPl l i ++ restP l (i + 1) := by
  unfold restP
  rw [List.drop_eq_getElem_cons (by simpa using h), List.flatMap_cons, List.getElem_range]
theorem rdP (l : List (S125)) (i : Nat) : rd_T125 l (i : Int) = l.getD i z125 := by simp [rd_T125]
theorem filt_nodup (i k : Int) : ∀ (F : List (S125)), F.Nodup → F.filter (eqPl i k) = if hasP F ⟨i, k⟩ = true then [⟨i, k⟩] else []
  | [], _ => by simp [hasP]
  | x :: F, h => by
    rw [List.nodup_cons] at h
    have ih := filt_nodup i k F h.2
    have hx : eqPl i k x = true ↔ x = ⟨i, k⟩ := by
      unfold eqPl
      rw [Bool.and_eq_true, beq_iff_eq, beq_iff_eq]
      constructor
      · rintro ⟨h1, h2⟩; cases x; simp only at h1 h2; rw [h1, h2]
      · rintro rfl; exact ⟨rfl, rfl⟩
    rw [List.filter_cons]
    by_cases hc : eqPl i k x = true
    · have hxe := hx.1 hc
      subst hxe
      have hno : hasP F ⟨i, k⟩ ≠ true := fun h2 => h.1 (hasP_iff.1 h2)
      rw [if_pos hc, ih, if_neg hno, if_pos (hasP_iff.2 (by simp))]
    · have hne : x ≠ ⟨i, k⟩ := fun e => hc (hx.2 e)
      rw [if_neg hc, ih]
      have e : hasP (x :: F) ⟨i, k⟩ = hasP F ⟨i, k⟩ := by
        rw [Bool.eq_iff_iff, hasP_iff, hasP_iff, List.mem_cons]
        exact ⟨fun h => h.resolve_left (fun e => hne e.symm), .inr⟩
      rw [e]
section
variable {l : List (S68)} {F : List (S125)} {R : List (S125)}
theorem n5_f (hF : F.length ≤ 1000000000) {i k : Nat} (hk : k < 9223372036854775807) : ∀ (d j : Nat) (acc : List (S125)), j + d = F.length → acc.length + d ≤ 3000000000 →
    Ev (fun K => spec_Needed.l4 K l (acc ++ (F.drop j).filter (eqPl i k)) F i ((k + 1 : Nat) : Int)) R → Ev (fun K => spec_Needed.l5 K l acc F i k (j : Int)) R
  | 0, j, acc, h1, h2, h => by
    obtain rfl : j = F.length := by omega
    rw [List.drop_length, List.filter_nil, List.append_nil] at h
    refine Ev.succ ?_
    simp only [spec_Needed.l5]
    rw [wrap64_nat (i := k) hk]
    exact Ev.neg (by omega) h
  | d + 1, j, acc, h1, h2, h => by
    have hj : j < F.length := by omega
    rw [List.drop_eq_getElem_cons hj, List.filter_cons] at h
    have eg : F.getD j z125 = F[j] := by rw [List.getD_eq_getElem?_getD, List.getElem?_eq_getElem hj]; rfl
    refine Ev.succ ?_
    simp only [spec_Needed.l5]
    rw [rdP, eg, wrap64_nat (i := j) (by omega)]
    refine Ev.pos (by omega) (Ev.pos (by omega) ?_)
    by_cases hc : eqPl i k F[j] = true
    · rw [if_pos hc] at h
      refine Ev.pos hc (Ev.pos (by omega) (n5_f hF hk d (j + 1) _ (by omega) (by simp; omega) ?_))
      rw [List.append_assoc]
      exact h
    · rw [if_neg hc] at h
      exact Ev.neg hc (n5_f hF hk d (j + 1) _ (by omega) (by omega) h)
theorem n4_f (ho : okN l) (hF : F.length ≤ 1000000000) (hn : F.Nodup) {i : Nat} (hi : i < l.length) : ∀ (d k : Nat) (acc : List (S125)), k + d = (l.getD i z68).f0.length → acc.length + d ≤ 2000000000 →
    Ev (fun K => spec_Needed.l3 K l (acc ++ ((rowPl l i).drop k).filter (hasP F)) F ((i + 1 : Nat) : Int)) R → Ev (fun K => spec_Needed.l4 K l acc F i (k : Int)) R
  | 0, k, acc, h1, h2, h => by
    have h9 := ho.1
    have hl := rowPl_len l i
    rw [List.drop_eq_nil_of_le (by omega), List.filter_nil, List.append_nil] at h
    refine Ev.succ ?_
    simp only [spec_Needed.l4]
    rw [rdO, wrap64_nat (i := i) (by omega)]
    exact Ev.pos (by omega) (Ev.pos (by omega) (Ev.neg (by omega) h))
  | d + 1, k, acc, h1, h2, h => by
    have h9 := okN_get ho hi
    have hl := rowPl_len l i
    have hk : k < (rowPl l i).length := by omega
    have ek : (rowPl l i)[k] = ⟨(i : Int), (k : Int)⟩ := by unfold rowPl; simp
    rw [List.drop_eq_getElem_cons hk, List.filter_cons, ek] at h
    refine Ev.succ ?_
    simp only [spec_Needed.l4]
    rw [rdO]
    refine Ev.pos (by omega) (Ev.pos (by omega) (Ev.pos (by omega) (n5_f hF (by omega) F.length 0 acc (by omega) (by omega) ?_)))
    rw [List.drop_zero, filt_nodup _ _ F hn]
    split at h
    · rename_i hc
      rw [if_pos hc]
      refine n4_f ho hF hn hi d (k + 1) _ (by omega) (by simp; omega) ?_
      rw [List.append_assoc]
      exact h
    · rename_i hc
      rw [if_neg hc, List.append_nil]
      exact n4_f ho hF hn hi d (k + 1) _ (by omega) (by omega) h
theorem n3_f (ho : okN l) (hF : F.length ≤ 1000000000) (hn : F.Nodup) : ∀ (d i : Nat) (acc : List (S125)), i + d = l.length → acc.length + (restP l i).length ≤ 1000000000 →
    Ev (fun K => spec_Needed.l3 K l acc F (i : Int)) (acc ++ (restP l i).filter (hasP F))
  | 0, i, acc, h1, h2 => by
    obtain rfl : i = l.length := by omega
    rw [restP_end, List.filter_nil, List.append_nil]
    refine Ev.succ ?_
    simp only [spec_Needed.l3]
    exact Ev.neg (by omega) (Ev.now _)
  | d + 1, i, acc, h1, h2 => by
    have hi : i < l.length := by omega
    rw [restP_succ l hi] at h2 ⊢
    rw [List.length_append, rowPl_len] at h2
    refine Ev.succ ?_
    simp only [spec_Needed.l3]
    refine Ev.pos (by omega) (n4_f ho hF hn hi (l.getD i z68).f0.length 0 acc (by omega) (by omega) ?_)
    rw [List.drop_zero]
    have := n3_f ho hF hn d (i + 1) (acc ++ (rowPl l i).filter (hasP F)) (by omega) (by
      have := List.length_filter_le (hasP F) (rowPl l i)
      rw [rowPl_len] at this
      rw [List.length_append]; omega)
    rw [List.filter_append, ← List.append_assoc]
    exact this
/-- The known ones. -/
theorem n2_f {y wk : List (S125)} (hw : wk.length ≤ 1000000000) {i m : Nat} (hm : m < 9223372036854775807) {g0 : ByteArray} {g1 g2 g3 : Int} {g4 : List Int} {g5 : Int} {g6 : List Int} {rs : List (S132)} {p1 p2 : Int} :
    ∀ (d j : Nat) (b : Bool), j + d = wk.length →
    Ev (fun K => spec_Needed.l1 K l y (if (b || (wk.drop j).any (eqPl p1 p2)) = true then wk else wk ++ [⟨p1, p2⟩]) i ((m + 1 : Nat) : Int) g0 g1 g2 g3 g4 g5 g6 rs) R → Ev (fun K => spec_Needed.l2 K l y wk i (m : Int) b (j : Int) g0 g1 g2 g3 g4 g5 g6 rs p1 p2) R
  | 0, j, b, h1, h => by
    obtain rfl : j = wk.length := by omega
    rw [List.drop_length, List.any_nil, Bool.or_false] at h
    refine Ev.succ ?_
    simp only [spec_Needed.l2]
    rw [wrap64_nat (i := m) hm]
    refine Ev.neg (by omega) ?_
    by_cases hb : b = true
    · rw [if_pos hb] at h
      exact Ev.pos hb h
    · rw [if_neg hb] at h
      exact Ev.neg hb (Ev.pos (by omega) h)
  | d + 1, j, b, h1, h => by
    have hj : j < wk.length := by omega
    have eg : wk.getD j z125 = wk[j] := by rw [List.getD_eq_getElem?_getD, List.getElem?_eq_getElem hj]; rfl
    rw [List.drop_eq_getElem_cons hj, List.any_cons] at h
    refine Ev.succ ?_
    simp only [spec_Needed.l2]
    rw [rdP, eg, wrap64_nat (i := j) (by omega)]
    refine Ev.pos (by omega) ?_
    cases b
    · refine Ev.neg (by simp) (Ev.pos (by omega) (n2_f hw hm d (j + 1) _ (by omega) ?_))
      rw [Bool.false_or] at h
      exact h
    · refine Ev.pos rfl (n2_f hw hm d (j + 1) _ (by omega) ?_)
      rw [Bool.true_or] at h ⊢
      exact h
theorem any_hasP (wk : List (S125)) (p1 p2 : Int) : wk.any (eqPl p1 p2) = hasP wk ⟨p1, p2⟩ := rfl
theorem n1_f (ho : okN l) {y : List (S125)} {i : Nat} (hi9 : i < 1000000000) {p : S125} (hp : okP l p) {g0 : ByteArray} {g1 g2 g3 : Int} {g4 : List Int} {g5 : Int} {g6 : List Int} {rs : List (S132)} (hrs : rs.length ≤ 1000000000) :
    ∀ (d m : Nat) (wk : List (S125)), m + d = rs.length → i < wk.length → wk.getD i z125 = p → ((rs.drop m).foldl (addN l p) wk).length ≤ 1000000000 →
    Ev (fun K => spec_Needed.l0 K l y ((rs.drop m).foldl (addN l p) wk) ((i + 1 : Nat) : Int)) R → Ev (fun K => spec_Needed.l1 K l y wk i (m : Int) g0 g1 g2 g3 g4 g5 g6 rs) R
  | 0, m, wk, h1, hi, hg, hl, h => by
    rw [List.drop_eq_nil_of_le (by omega), List.foldl_nil] at h
    refine Ev.succ ?_
    simp only [spec_Needed.l1]
    rw [wrap64_nat (i := i) (by omega)]
    exact Ev.neg (by omega) h
  | d + 1, m, wk, h1, hi, hg, hl, h => by
    have hm : m < rs.length := by omega
    have er : rd_T132 rs (m : Int) = rs[m] := by simp [rd_T132, List.getElem?_eq_getElem hm]
    rw [List.drop_eq_getElem_cons hm, List.foldl_cons] at h hl
    have hw : wk.length ≤ 1000000000 := Nat.le_trans (Nat.le_trans (addN_len l p wk rs[m]) (fold_len l p _ _)) hl
    refine Ev.succ ?_
    simp only [spec_Needed.l1]
    rw [rdP, hg, er]
    refine Ev.pos (by omega) (Ev.pos (by omega) (Ev.pos (by omega) (Ev.pos (by omega) (Ev.bind (l20Of_f ho (nm := rs[m].f2) hp.2.1) ?_))))
    refine n2_f hw (by omega) wk.length 0 _ (by omega) ?_
    have key : (if (decide (((spotN l p.f0 rs[m].f2).getD (-1, -1)).1 < 0) || (wk.drop 0).any (eqPl ((spotN l p.f0 rs[m].f2).getD (-1, -1)).1 ((spotN l p.f0 rs[m].f2).getD (-1, -1)).2)) = true then wk else wk ++ [⟨((spotN l p.f0 rs[m].f2).getD (-1, -1)).1, ((spotN l p.f0 rs[m].f2).getD (-1, -1)).2⟩]) = addN l p wk rs[m] := by
      rw [List.drop_zero]
      rcases hs : spotN l p.f0 rs[m].f2 with _ | q
      · rw [addN_none hs]
        simp
      · have hq := spotN_ok hp.2.1 hs
        have hq0 : ¬ q.1 < 0 := by have := hq.1; simp only [mkP] at this; omega
        simp only [Option.getD_some]
        rw [decide_eq_false hq0, Bool.false_or, any_hasP]
        rcases hh : hasP wk (mkP q) with _ | _
        · rw [addN_new hs hh, if_neg (by unfold mkP at hh; rw [hh]; simp)]
          rfl
        · rw [addN_old hs hh, if_pos (by unfold mkP at hh; exact hh)]
    rw [key]
    refine n1_f ho hi9 hp hrs d (m + 1) _ (by omega) (Nat.lt_of_lt_of_le hi (addN_len l p wk rs[m])) ?_ hl h
    have : ∃ z, addN l p wk rs[m] = wk ++ z := by
      unfold addN
      split
      · exact ⟨[], by simp⟩
      · split
        · exact ⟨[], by simp⟩
        · exact ⟨_, rfl⟩
    obtain ⟨z, hz⟩ := this
    rw [hz, List.getD_eq_getElem?_getD, List.getElem?_append_left hi, ← List.getD_eq_getElem?_getD, hg]
theorem n0_f (ho : okR l) {y : List (S125)} (hF : F.length ≤ 1000000000) : ∀ (k : Nat) (wk : List (S125)) (i : Nat), bfsN k l wk i = some F → (∀ x ∈ wk, okP l x) → i ≤ wk.length →
    Ev (fun K => spec_Needed.l3 K l y F 0) R → Ev (fun K => spec_Needed.l0 K l y wk (i : Int)) R
  | 0, wk, i, h, _, _, _ => by simp [bfsN] at h
  | k + 1, wk, i, h, hv, hi, hR => by
    have hw := Nat.le_trans (bfs_len h) hF
    unfold bfsN at h
    split at h
    · rename_i hlt
      have hp := hv _ (getD_mem_ (z := z125) hlt)
      obtain ⟨p, hpe⟩ : ∃ p, p = wk.getD i z125 := ⟨_, rfl⟩
      rw [← hpe] at h hp
      have hp' := hp
      obtain ⟨q1, q2, q3, q4⟩ := hp'
      refine Ev.succ ?_
      simp only [spec_Needed.l0]
      rw [rdP, ← hpe]
      refine Ev.pos (by omega) (Ev.pos (by omega) (Ev.pos q1 (Ev.pos q2 (Ev.pos q3 (Ev.pos q4 ?_)))))
      have hlen := Nat.le_trans (bfs_len h) hF
      refine n1_f ho.1 (by omega) hp (relsOf_len ho hp) (relsOf l p).length 0 wk (by omega) hlt hpe.symm hlen ?_
      exact n0_f ho hF k _ (i + 1) h (fold_ok hp _ _ hv) (by rw [List.drop_zero]; have := fold_len l p (relsOf l p) wk; omega) hR
    · rename_i hlt
      injection h with h
      subst h
      refine Ev.succ ?_
      simp only [spec_Needed.l0]
      exact Ev.neg (by omega) hR
end
/-! It ends. -/
theorem addN_nodup {l : List (S68)} {p : S125} {wk : List (S125)} {r : S132} (h : wk.Nodup) : (addN l p wk r).Nodup := by
  unfold addN
  split
  · exact h
  · rename_i q _
    split
    · exact h
    · rename_i hc
      rw [List.nodup_append]
      refine ⟨h, by simp, fun a ha b hb e => ?_⟩
      rw [List.mem_singleton] at hb
      subst hb
      subst e
      exact hc (hasP_iff.2 ha)
theorem fold_nodup (l : List (S68)) (p : S125) : ∀ (rs : List (S132)) (wk : List (S125)), wk.Nodup → (rs.foldl (addN l p) wk).Nodup
  | [], _, h => h
  | r :: rs, wk, h => fold_nodup l p rs _ (addN_nodup h)
open Classical in
theorem nodup_le {α : Type} : ∀ (a b : List α), a.Nodup → (∀ x ∈ a, x ∈ b) → a.length ≤ b.length
  | [], _, _, _ => Nat.zero_le _
  | x :: a, b, h, hs => by
    rw [List.nodup_cons] at h
    have hx : x ∈ b := hs x (by simp)
    have := nodup_le a (b.erase x) h.2 (fun z hz => (List.mem_erase_of_ne (fun e => h.1 (by subst e; exact hz))).2 (hs z (by simp [hz])))
    rw [List.length_erase_of_mem hx] at this
    have hpos : 0 < b.length := List.length_pos_of_mem hx
    rw [List.length_cons]
    omega
theorem okP_mem {l : List (S68)} {p : S125} (h : okP l p) : p ∈ placesOf l := by
  obtain ⟨h1, h2, h3, h4⟩ := h
  unfold placesOf
  rw [List.mem_flatMap]
  obtain ⟨i, hi⟩ : ∃ i : Nat, p.f0 = (i : Int) := ⟨p.f0.toNat, by omega⟩
  obtain ⟨k, hk⟩ : ∃ k : Nat, p.f1 = (k : Int) := ⟨p.f1.toNat, by omega⟩
  rw [hi, rdO, hk] at h4
  refine ⟨i, List.mem_range.2 (by omega), ?_⟩
  unfold rowPl
  rw [List.mem_map]
  refine ⟨k, List.mem_range.2 (by omega), ?_⟩
  cases p
  simp only at hi hk
  rw [hi, hk]
theorem bfs_ends (l : List (S68)) : ∀ (d : Nat) (wk : List (S125)) (i : Nat), wk.Nodup → (∀ x ∈ wk, okP l x) → (placesOf l).length ≤ i + d → ∃ F, bfsN (d + 1) l wk i = some F ∧ F.Nodup ∧ ∀ x ∈ F, okP l x
  | 0, wk, i, hn, hv, hd => by
    have := nodup_le wk (placesOf l) hn (fun x hx => okP_mem (hv x hx))
    exact ⟨wk, by unfold bfsN; rw [if_neg (by omega)], hn, hv⟩
  | d + 1, wk, i, hn, hv, hd => by
    by_cases hlt : i < wk.length
    · have hp := hv _ (getD_mem_ (z := z125) hlt)
      obtain ⟨F, h1, h2⟩ := bfs_ends l d (stepP l (wk.getD i z125) wk) (i + 1) (fold_nodup l _ _ _ hn) (fold_ok hp _ _ hv) (by omega)
      exact ⟨F, by rw [bfsN, if_pos hlt]; exact h1, h2⟩
    · exact ⟨wk, by unfold bfsN; rw [if_neg hlt], hn, hv⟩
theorem bfsN_ge {l : List (S68)} {wk F : List (S125)} {i k : Nat} (h : bfsN k l wk i = some F) : ∀ m, bfsN (k + m) l wk i = some F
  | 0 => h
  | m + 1 => bfsN_mono (k + m) l wk i F (bfsN_ge h m)
/-- Both answer the same. -/
theorem needed_f (l : List (S68)) (nm : ByteArray) (ho : okR l) (hP : (placesOf l).length ≤ 1000000000) (hne : l.length ≤ 1000000000) : ∃ r : List (S125), r.length ≤ 1000000000 ∧ Ev (fun K => spec_Needed.f K l nm) r ∧ Ev (fun K => impl_Needed.f K l nm) r := by
  have hsp := l20Of_f (nm := nm) ho.1 (obj := -1) (by omega)
  rcases hs : spotN l (-1) nm with _ | q
  · refine ⟨[], by simp, ?_, ?_⟩
    · rw [hs] at hsp
      unfold spec_Needed.f
      refine Ev.some_bind (Ev.bind hsp ?_)
      refine Ev.eq_bind (a := false) (by unfold spec_l20Code.f; rw [if_neg (by simp)]) ?_
      exact Ev.neg (by simp) (Ev.now _)
    · unfold impl_Needed.f needN
      refine Ev.pos ho ?_
      rw [hs]
      exact Ev.now _
  · have hq := spotN_ok (by omega) hs
    rw [hs] at hsp
    have hq' := hq
    obtain ⟨q1, q2, q3, q4⟩ := hq'
    simp only [mkP] at q1 q2 q3 q4
    have hcode : spec_l20Code.f l q.1 q.2 = some ((rd_T130 (rd_T68 l q.1).f0 q.2).f1 == 1) := by
      unfold spec_l20Code.f
      rw [if_pos q1, if_pos q1, if_pos q2, if_pos q3, if_pos q4]
    by_cases hc : (rd_T130 (rd_T68 l q.1).f0 q.2).f1 = 1
    · obtain ⟨F, hF, hn, hv⟩ := bfs_ends l (placesOf l).length [mkP q] 0 (by simp) (fun x hx => by rw [List.mem_singleton] at hx; subst hx; exact hq) (by omega)
      have hFl := Nat.le_trans (nodup_le F (placesOf l) hn (fun x hx => okP_mem (hv x hx))) hP
      refine ⟨(placesOf l).filter (hasP F), Nat.le_trans (List.length_filter_le _ _) hP, ?_, ?_⟩
      · unfold spec_Needed.f
        refine Ev.some_bind (Ev.bind hsp ?_)
        simp only [Option.getD_some]
        refine Ev.eq_bind hcode ?_
        refine Ev.pos (by rw [hc]; rfl) ?_
        refine n0_f ho hFl ((placesOf l).length + 1) [mkP q] 0 hF (fun x hx => by rw [List.mem_singleton] at hx; subst hx; exact hq) (by simp) ?_
        have := n3_f ho.1 hFl hn l.length 0 [] (by omega) (by rw [restP_zero]; simpa using hP)
        rw [restP_zero, List.nil_append] at this
        exact this
      · refine ⟨(placesOf l).length + 1, fun k hk => ?_⟩
        obtain ⟨m, rfl⟩ : ∃ m, k = (placesOf l).length + 1 + m := ⟨k - ((placesOf l).length + 1), by omega⟩
        show impl_Needed.f ((placesOf l).length + 1 + m) l nm = some _
        unfold impl_Needed.f needN
        rw [if_pos ho, hs]
        simp only [hc, if_true]
        rw [bfsN_ge hF m, Option.bind_some, if_pos ⟨hFl, hP⟩]
    · refine ⟨[], by simp, ?_, ?_⟩
      · unfold spec_Needed.f
        refine Ev.some_bind (Ev.bind hsp ?_)
        simp only [Option.getD_some]
        refine Ev.eq_bind hcode ?_
        exact Ev.neg (by rw [beq_iff_eq]; exact hc) (Ev.now _)
      · unfold impl_Needed.f needN
        refine Ev.pos ho ?_
        rw [hs]
        simp only [hc, if_false]
        exact Ev.now _
end Go.Proofs.Ythegbhfoleiegaa.All


/- FnExactNeeded: the printed law is true of all arguments. -/
namespace Go.Proofs.Ythegbhfoleiegaa.Pure
open Go.Proofs.Ythegbhfoleiegaa.All
open Go.RowKit Go.Proofs.YthegbhfoleiegaaW.PrintWords Go.Proofs.YthegbhfoleiegaaW.PrintLast Go.Proofs.YthegbhfoleiegaaW.PrintMore
set_option linter.unusedVariables false
set_option linter.unusedSimpArgs false
theorem sum_lin {α : Type} {f g : α → Nat} {a b : Nat} (h : ∀ x, f x ≤ a + b * g x) : ∀ xs : List α, (xs.map f).sum ≤ a * xs.length + b * (xs.map g).sum
  | [] => by simp
  | x :: xs => by
    have h1 := h x
    have h2 := sum_lin h xs
    simp only [List.map_cons, List.sum_cons, List.length_cons]
    rw [Nat.mul_add, Nat.mul_add, Nat.mul_one]
    omega
theorem lRelocS_ok {l : List S237} (h : l.length ≤ 9223372036854775807 ∧ ∀ y ∈ l, ok237 y) : lRelocS l := ⟨h.1, fun x hx => (h.2 x hx).2.2⟩
theorem lObjectS_ok {l : List S63} (h : l.length ≤ 9223372036854775807 ∧ ∀ y ∈ l, ok63 y) : lObjectS l := by
  refine ⟨h.1, fun o ho => ?_⟩
  have h1 := h.2 o ho
  unfold ok63 at h1
  refine ⟨h1.1, fun s hs => ?_⟩
  have h2 := h1.2 s hs
  unfold ok191 at h2
  obtain ⟨k0, _, _, _, k4, _, k6, k7⟩ := h2
  exact ⟨k0, k4.1, k6.1, lRelocS_ok k7⟩
theorem okR_of {l : List S68} (h : bObjectS l) : okR l :=
  ⟨⟨by have := h.1; omega, fun o ho => by have := (h.2 o ho).1; omega⟩, fun o ho s hs => by have := ((h.2 o ho).2 s hs).2.2.1; omega⟩
theorem cntSec (x : S191) : cnt_Section (iSection x) ≤ 5 + 3 * sSection x := by
  have h1 : cntL_Reloc (iSection x).f7 = 3 * x.f7.length := by
    show cntL_Reloc (x.f7.map iReloc) = _
    unfold cntL_Reloc cnt_Reloc
    rw [List.map_map]
    generalize x.f7 = l
    induction l with
    | nil => rfl
    | cons y l ih => rw [List.map_cons, List.sum_cons, ih, List.length_cons]; simp; omega
  have h2 : cntL_int64 (iSection x).f4 = x.f4.length := rfl
  have h3 : cntL_uint8 (iSection x).f6 = x.f6.length := rfl
  unfold cnt_Section sSection sRelocS
  omega
theorem cntObj (x : S63) : cnt_Object (iObject x) ≤ 0 + 5 * sObject x := by
  have e : cnt_Object (iObject x) = (x.f0.map (fun s => cnt_Section (iSection s))).sum := by
    show cntL_Section (x.f0.map iSection) = _
    unfold cntL_Section
    rw [List.map_map]
    rfl
  have := sum_lin cntSec x.f0
  rw [e]
  unfold sObject sSectionS
  omega
theorem cntObjS (l : List S63) : cntL_Object (l.map iObject) ≤ 5 * sObjectS l := by
  have e : cntL_Object (l.map iObject) = (l.map (fun s => cnt_Object (iObject s))).sum := by
    unfold cntL_Object
    rw [List.map_map]
    rfl
  have := sum_lin cntObj l
  rw [e]
  unfold sObjectS
  omega
theorem restP_sum (l : List S68) : ∀ (d i : Nat), i + d = l.length → (restP l i).length = ((l.drop i).map (fun o => o.f0.length)).sum
  | 0, i, h => by
    obtain rfl : i = l.length := by omega
    rw [restP_end, List.drop_length]; rfl
  | d + 1, i, h => by
    have hi : i < l.length := by omega
    rw [restP_succ l hi, List.length_append, rowPl_len, restP_sum l d (i + 1) (by omega), List.drop_eq_getElem_cons hi, List.map_cons, List.sum_cons, List.getD_eq_getElem?_getD, List.getElem?_eq_getElem hi]
    rfl
theorem placesLen (l : List S63) : (placesOf (l.map iObject)).length ≤ sObjectS l := by
  rw [← restP_zero, restP_sum _ (l.map iObject).length 0 (by omega), List.drop_zero, List.map_map]
  have := sum_lin (f := fun x : S63 => (iObject x).f0.length) (g := sObject) (a := 0) (b := 1) (fun x => by
    show (x.f0.map iSection).length ≤ _
    rw [List.length_map]
    unfold sObject sSectionS
    omega) l
  have e : (l.map ((fun o : S68 => o.f0.length) ∘ iObject)).sum = (l.map (fun x => (iObject x).f0.length)).sum := rfl
  rw [e]
  unfold sObjectS
  omega
theorem FnExactNeeded (l0 : List S63) (a1 : ByteArray) (h0 : l0.length ≤ 9223372036854775807 ∧ ∀ y ∈ l0, ok63 y) (_ : a1.size ≤ 9223372036854775807) : ∃ k, laws_FnExactNeeded.f k l0 a1 = some true := by
  refine Ev.rounds ?_
  unfold laws_FnExactNeeded.f
  by_cases ha : (a1.size : Int) > 1048576
  · exact Ev.pos ha (Ev.now _)
  refine Ev.neg ha ?_
  refine Ev.bind (szObjectS_f l0 1048576 (by omega) (by omega) (lObjectS_ok h0)) ?_
  by_cases hc : (sObjectS l0 : Int) ≤ 1048576
  · rw [if_pos hc]
    refine Ev.neg (by omega) ?_
    have hs : sObjectS l0 ≤ 1048576 := by omega
    have ht := toObjectS_f l0 hs
    have hb := bObjectS_of l0 hs
    have hcn := cntObjS l0
    have hpl := placesLen l0
    have hlen : (l0.map iObject).length ≤ 1048576 := by rw [List.length_map]; unfold sObjectS at hs; omega
    obtain ⟨r, hr, hS, hI⟩ := needed_f (l0.map iObject) a1 (okR_of hb) (by omega) (by omega)
    have hE := eqPlaceS_f r (by omega)
    have hM := markPlaceS_f r (by omega)
    have hH := heldPlaceS_f r.length (by omega)
    have hF := eqObjectS_f (l0.map iObject) hb
    have hK : laws_markObjectS.f (l0.map iObject) 1 = some ((1 : Int) + (cntL_Object (l0.map iObject) : Nat)) := by
      unfold laws_markObjectS.f
      rw [if_pos (by omega), if_pos (by omega)]
    refine Ev.bind ht (Ev.bind hS (Ev.bind ht (Ev.bind hI (Ev.bind hE (Ev.pos rfl (Ev.bind ht (Ev.bind hF (Ev.pos rfl (Ev.eq_bind hK (Ev.neg (by omega) (Ev.bind hE ?_)))))))))))
    refine Ev.succ ?_
    simp only [laws_FnExactNeeded.j0]
    refine Ev.neg (by simp) (Ev.bind hM (Ev.bind hH (Ev.neg (by omega) (Ev.pos rfl ?_))))
    refine Ev.bind ht (Ev.bind hI (Ev.bind hE (Ev.pos rfl (Ev.bind hH ?_))))
    exact Ev.neg (by omega) (Ev.pos rfl (Ev.now _))
  · rw [if_neg hc]
    exact Ev.pos (by omega) (Ev.now _)
end Go.Proofs.Ythegbhfoleiegaa.Pure

