/- Part 3 of the proof of FnExactIntervals: functions of the translation with what they return, and plain laws of these. Written by programs of this session over the kit's print, and by hand. -/
import Derived.Test.YthegbhfoleiegaaProg
import Derived.Test.YthegbhfoleiegaaCFnExactIntervalsWApart
import Derived.Test.YthegbhfoleiegaaCFnExactIntervalsWArr
import Derived.Test.YthegbhfoleiegaaCFnExactIntervalsWAt
import Derived.Test.YthegbhfoleiegaaCFnExactIntervalsWFoot
import Derived.Test.YthegbhfoleiegaaCFnExactIntervalsWFootNe
import Derived.Test.YthegbhfoleiegaaCFnExactIntervalsWGuard
import Derived.Test.YthegbhfoleiegaaCFnExactIntervalsWInv
import Derived.Test.YthegbhfoleiegaaCFnExactIntervalsWKept
import Derived.Test.YthegbhfoleiegaaCFnExactIntervalsWLast
import Derived.Test.YthegbhfoleiegaaCFnExactIntervalsWMore
import Derived.Test.YthegbhfoleiegaaCFnExactIntervalsWN
import Derived.Test.YthegbhfoleiegaaCFnExactIntervalsWNEv
import Derived.Test.YthegbhfoleiegaaCFnExactIntervalsWQPut
import Derived.Test.YthegbhfoleiegaaCFnExactIntervalsWRepsOne
import Derived.Test.YthegbhfoleiegaaCFnExactIntervalsWShare
import Derived.Test.YthegbhfoleiegaaCFnExactIntervalsWTab
import Derived.Test.YthegbhfoleiegaaCFnExactIntervalsWWords
import Derived.Test.YthegbhfoleiegaaCFnExactIntervalsWZeros
import Derived.Below
import Derived.Deep.Draws
import Derived.Deep.AppendLies
import Derived.Maps.AppendAt
import Derived.OwnWalk
import Derived.Laws.BytesArg
import Derived.Laws.MakeOwn
import Derived.Laws.OwnMore
import Derived.Deep.OwnRows
import Derived.Tactics
import Derived.Lib.ConvBytes
import Derived.Laws.Slices
import Derived.WalkKit
import Derived.KernelRfl
import Derived.RowKit3
import Derived.Deep.LoopGhost
import Derived.Deep.QuietTactic
import Derived.BigQuiet
import Derived.WideLaws
import Derived.Deep.DeepCutAuto
import Derived.Deep.CutBlock
import Derived.Deep.RegionHeld3
import Derived.Laws.Rows
import Derived.Lib.AppendStr
import Derived.ArgAppend
import Derived.Laws.IdiomCopy
import Derived.OrdersHeld
import Derived.Laws.BitsLemmas
import Derived.RowKit
import Derived.Laws.CopyOwn
import Derived.Maps.OwnSet
import Derived.Maps.OwnOps
import Derived.Maps.RangeWalk
import Derived.BigRegion
import Derived.Handy
import Derived.Shelf.GgSortFunc.Whole
import Derived.Shelf.GgSortFunc.Tiny
import Derived.Sort.OwnSortedInts
import Derived.Lib.RowBridge
import Derived.Lib.SortBridge
import Derived.Sort.LotA
import Derived.Deep.Slices
import Derived.ChangeArms
import Derived.ProofKit
import Derived.OpenShut
import Derived.ShutString
import Derived.ChangeOld
import Derived.SizedLaws
import Derived.Test.YthegbhfoleiegaaCFnExactIntervals1
import Derived.Test.YthegbhfoleiegaaCFnExactIntervals2
namespace Go.Proofs.Ythegbhfoleiegaa.All
open Go.RowKit Go.Proofs.YthegbhfoleiegaaW.PrintWords Go.Proofs.YthegbhfoleiegaaW.PrintLast Go.Proofs.YthegbhfoleiegaaW.PrintMore
attribute [local go_sem] max2_int min2_int max_two min_two max_three min_three max_four min_four   -- for this text's walks alone
set_option linter.unusedVariables false
set_option linter.unusedSimpArgs false

mutual
def spec_l18Well.j0 : Nat → Bool → Int → List Int → List (S85) → Option (Bool)
 | 0, _, _, _, _ => none
 | k + 1, x15, x445000, x445001, x445002 => if x15 = true then (some false) else (spec_l18Well.l0 k 0 x445000 x445001 x445002)
def spec_l18Well.l0 : Nat → Int → Int → List Int → List (S85) → Option (Bool)
 | 0, _, _, _, _ => none
 | k + 1, x3, x445000, x445001, x445002 => if x3 < (x445002.length : Int) then (spec_l18Well.l1 k x3 0 x445000 x445001 x445002) else (some true)
def spec_l18Well.l1 : Nat → Int → Int → Int → List Int → List (S85) → Option (Bool)
 | 0, _, _, _, _, _ => none
 | k + 1, x3, x4, x445000, x445001, x445002 => if 0 ≤ x3 then (if x3 < (x445002.length : Int) then (if x4 < (((rd_T85 x445002 x3).f0).length : Int) then (if 0 ≤ x4 then ((spec_l18Goes.f ((rd_T87 ((rd_T85 x445002 x3).f0) x4).f0) ((rd_T87 ((rd_T85 x445002 x3).f0) x4).f1) ((rd_T87 ((rd_T85 x445002 x3).f0) x4).f2) ((rd_T87 ((rd_T85 x445002 x3).f0) x4).f3) ((rd_T87 ((rd_T85 x445002 x3).f0) x4).f4) ((rd_T87 ((rd_T85 x445002 x3).f0) x4).f5) ((rd_T87 ((rd_T85 x445002 x3).f0) x4).f6) ((rd_T87 ((rd_T85 x445002 x3).f0) x4).f7)).bind fun t449 => (if t449 = true then (spec_l18Well.j3 k x3 x4 false x445000 x445001 x445002 ((rd_T87 ((rd_T85 x445002 x3).f0) x4).f0) ((rd_T87 ((rd_T85 x445002 x3).f0) x4).f1) ((rd_T87 ((rd_T85 x445002 x3).f0) x4).f2) ((rd_T87 ((rd_T85 x445002 x3).f0) x4).f3) ((rd_T87 ((rd_T85 x445002 x3).f0) x4).f4) ((rd_T87 ((rd_T85 x445002 x3).f0) x4).f5) ((rd_T87 ((rd_T85 x445002 x3).f0) x4).f6) ((rd_T87 ((rd_T85 x445002 x3).f0) x4).f7)) else (spec_l18Well.j3 k x3 x4 (decide (x4 < (wrap64 ((((rd_T85 x445002 x3).f0).length : Int) - 1)))) x445000 x445001 x445002 ((rd_T87 ((rd_T85 x445002 x3).f0) x4).f0) ((rd_T87 ((rd_T85 x445002 x3).f0) x4).f1) ((rd_T87 ((rd_T85 x445002 x3).f0) x4).f2) ((rd_T87 ((rd_T85 x445002 x3).f0) x4).f3) ((rd_T87 ((rd_T85 x445002 x3).f0) x4).f4) ((rd_T87 ((rd_T85 x445002 x3).f0) x4).f5) ((rd_T87 ((rd_T85 x445002 x3).f0) x4).f6) ((rd_T87 ((rd_T85 x445002 x3).f0) x4).f7)))) else (none)) else (spec_l18Well.l0 k (wrap64 (x3 + 1)) x445000 x445001 x445002)) else (none)) else (none)
def spec_l18Well.j3 : Nat → Int → Int → Bool → Int → List Int → List (S85) → Int → Int → Int → Int → Int → Int → ByteArray → List Int → Option (Bool)
 | 0, _, _, _, _, _, _, _, _, _, _, _, _, _, _ => none
 | k + 1, x3, x4, x57, x445000, x445001, x445002, x449000, x449001, x449002, x449003, x449004, x449005, x449006, x449007 => if x57 = true then (some false) else (if x449000 = 23 then ((spec_l18Jumps.f x445000 x445001 x445002 x449000 x449001 x449002 x449003 x449004 x449005 x449006 x449007).bind fun t451 => (spec_l18Well.j4 k x3 x4 (decide (t451 < 0)) x445000 x445001 x445002 x449000 x449001 x449002 x449003 x449004 x449005 x449006 x449007)) else (if x449000 = 24 then ((spec_l18Jumps.f x445000 x445001 x445002 x449000 x449001 x449002 x449003 x449004 x449005 x449006 x449007).bind fun t452 => (spec_l18Well.j4 k x3 x4 (decide (t452 < 0)) x445000 x445001 x445002 x449000 x449001 x449002 x449003 x449004 x449005 x449006 x449007)) else (if x449000 = 25 then ((spec_l18Jumps.f x445000 x445001 x445002 x449000 x449001 x449002 x449003 x449004 x449005 x449006 x449007).bind fun t453 => (spec_l18Well.j4 k x3 x4 (decide (t453 < 0)) x445000 x445001 x445002 x449000 x449001 x449002 x449003 x449004 x449005 x449006 x449007)) else (spec_l18Well.j4 k x3 x4 false x445000 x445001 x445002 x449000 x449001 x449002 x449003 x449004 x449005 x449006 x449007))))
def spec_l18Well.j4 : Nat → Int → Int → Bool → Int → List Int → List (S85) → Int → Int → Int → Int → Int → Int → ByteArray → List Int → Option (Bool)
 | 0, _, _, _, _, _, _, _, _, _, _, _, _, _, _ => none
 | k + 1, x3, x4, x76, x445000, x445001, x445002, x449000, x449001, x449002, x449003, x449004, x449005, x449006, x449007 => if x76 = true then (some false) else ((spec_Reads.f k x449000 x449001 x449002 x449003 x449004 x449005 x449006 x449007).bind fun t454 => ((some (([x449001] : List Int) : List Int)).bind fun y457 => (if t454.length + y457.length < 17592186044416 then (spec_l18Well.l2 k x3 x4 (t454 ++ y457) 0 x445000 x445001 x445002) else (none))))
def spec_l18Well.l2 : Nat → Int → Int → List Int → Int → Int → List Int → List (S85) → Option (Bool)
 | 0, _, _, _, _, _, _, _ => none
 | k + 1, x3, x4, x6, x7, x445000, x445001, x445002 => if x7 < (x6.length : Int) then (if 0 ≤ x7 then (if (rd x6 x7) ≥ x445000 then (some false) else (spec_l18Well.l2 k x3 x4 x6 (wrap64 (x7 + 1)) x445000 x445001 x445002)) else (none)) else (spec_l18Well.l1 k x3 (wrap64 (x4 + 1)) x445000 x445001 x445002)
end
def spec_l18Well.f (k : Nat) (a0_0 : Int) (l0_1 : List Int) (l0_2 : List (S85)) : Option (Bool) := if a0_0 < 0 then (spec_l18Well.j0 k true a0_0 l0_1 l0_2) else (spec_l18Well.j0 k (decide (a0_0 > 1048576)) a0_0 l0_1 l0_2)
set_option maxHeartbeats 8000000 in
set_option maxRecDepth 100000 in
theorem spec_l18Well.calls (k : Nat) (a0_0 : Int) (A0_1 : Option Addr) (c0_1 : Nat) (l0_1 : List Int) (A0_2 : Option Addr) (c0_2 : Nat) (l0_2 : List (S85)) (r : Bool) (w : World) (hr0_1 : Kd.C (Kd.int .i64) w A0_1 l0_1.length l0_1) (hc0_1 : l0_1.length ≤ c0_1) (hr0_2 : Kd.C k85 w A0_2 l0_2.length l0_2) (hc0_2 : l0_2.length ≤ c0_2) (h : spec_l18Well.f k a0_0 l0_1 l0_2 = some r) :
 Calls Try.prog 72 #[.agg #[.int .i64 a0_0, .slice A0_1 l0_1.length c0_1, .slice A0_2 l0_2.length c0_2]] w fun e w' => e = .returned (.bool r) ∧ Below w.heap.size w w' := by
 have hu29 := Try.underlying29
 have hu87 := Try.underlying87
 have HR0_1 := Aside0.mk hr0_1
 have HC0_1 := Aside0.mk hc0_1
 clear hr0_1 hc0_1
 have HR0_2 := Aside0.mk hr0_2
 have HC0_2 := Aside0.mk hc0_2
 clear hr0_2 hc0_2
 have HB := Aside0.mk (Below.refl w.heap.size w)
 have H : (if a0_0 < 0 then (spec_l18Well.j0 k true a0_0 l0_1 l0_2) else (spec_l18Well.j0 k (decide (a0_0 > 1048576)) a0_0 l0_1 l0_2)) = some r := h
 clear h
 have HC2 := Aside0.mk H
 clear H
 go_enter Try.func72, Try.ntmps72
 go_upto_region 1 with (first | ((with_reducible refine gate_dst (N := 1) rfl ?_); (try (refine gate_guard (by rfl) ?_; dsimp only)); refine box_event ?hg (N := 1) ?hd (cs := #[.int .i64 a0_0, .slice A0_1 l0_1.length c0_1, .slice A0_2 l0_2.length c0_2]) (t := 29) ?hr ?_; (case hd => rfl); (case hg => rfl); (case hr => first | (go_simp; done) | (go_simp; rfl)); intro gb444 hg w3 hbox hb; have n0_ := Aside0.mk (below_step bz hb); have n1_ := Aside0.mk (hbox); have n2_ := Aside0.mk ((by rw [hg]; exact (below_size bz) : w.heap.size ≤ gb444)); have n3_ := Aside0.mk ((by rw [hg]; exact (below_size bz) : w.heap.size ≤ gb444)); clear HB; have HB := n0_; have BK444 := n1_; have GW444 := n2_; have GE444 := n3_; clear n0_ n1_ n2_ n3_; clear hb hbox hg))
 (try simp only [Act.put, sx1, sx2, sx3])
 go_cut [15] (fun v15 wc => ∃ (kq : Nat) (x15_1 : Bool), v15 = .bool x15_1 ∧ Aside0 (spec_l18Well.j0 kq x15_1 a0_0 l0_1 l0_2 = some r) ∧ Aside0 (kq ≤ k) ∧ Aside0 (wc.heap[gb444]? = some (.cells #[.int .i64 a0_0, (.slice A0_1 l0_1.length c0_1), (.slice A0_2 l0_2.length c0_2)] 29 (0, 0))) ∧ Aside0 (Below w.heap.size w wc))
 case first =>
  have H := HC2.out
  clear HC2
  by_cases c4 : a0_0 < 0
  · rw [if_pos c4] at H
    have c4b0 : decide (a0_0 < 0) = true := decide_eq_true c4
    clear c4
    (first | rw [c4b0] | (simp only [i64_w, i32_w]; rw [c4b0]) | skip)
    have H' := Aside0.mk H
    clear H
    have hcz5_0 : w3.cell? ⟨gb444, 0, none⟩ = some (.int .i64 a0_0) := (blk_cell BK444.out 0).trans rfl
    have hcz5_1 : w3.cell? ⟨gb444, 1, none⟩ = some (.slice A0_1 l0_1.length c0_1) := (blk_cell BK444.out 1).trans rfl
    have hcz5_2 : w3.cell? ⟨gb444, 2, none⟩ = some (.slice A0_2 l0_2.length c0_2) := (blk_cell BK444.out 2).trans rfl
    go_wp2
    go_meet
    case rel => exact ⟨_, (true), sz_, H', ⟨by first | omega | exact Nat.le_refl _⟩, ⟨ kz⟩, ⟨ bz⟩⟩
  · rw [if_neg c4] at H
    have c4b0 : decide (a0_0 < 0) = false := decide_eq_false c4
    clear c4
    (first | rw [c4b0] | (simp only [i64_w, i32_w]; rw [c4b0]) | skip)
    have H' := Aside0.mk H
    clear H
    have hcz6_0 : w3.cell? ⟨gb444, 0, none⟩ = some (.int .i64 a0_0) := (blk_cell BK444.out 0).trans rfl
    have hcz6_1 : w3.cell? ⟨gb444, 1, none⟩ = some (.slice A0_1 l0_1.length c0_1) := (blk_cell BK444.out 1).trans rfl
    have hcz6_2 : w3.cell? ⟨gb444, 2, none⟩ = some (.slice A0_2 l0_2.length c0_2) := (blk_cell BK444.out 2).trans rfl
    go_wp2
    go_meet
    case rel => exact ⟨_, (decide (a0_0 > 1048576)), sz_, H', ⟨by first | omega | exact Nat.le_refl _⟩, ⟨ kz⟩, ⟨ bz⟩⟩
 case rest =>
  clear HC2
  obtain ⟨kq, x15_1, rfl, HA, HJ1, BK444, HB⟩ := hcut
  cases kq with
  | zero => exact absurd HA.out (by simp [spec_l18Well.j0])
  | succ kj1 =>
   have H := HA.out
   clear HA
   simp only [spec_l18Well.j0] at H
   by_cases c7 : x15_1 = true
   · subst c7
     have H1 : (some false) = some r := by rw [if_pos rfl] at H; exact H
     clear H
     have H := H1
     clear H1
     obtain rfl := Option.some.inj H
     go_wp2
     go_ret
     exact ⟨by first | rfl | (simp [errW_none, errW_some] <;> rfl) | (simp [*, errW_none, errW_some] <;> rfl), bz⟩
   · replace c7 := Bool.eq_false_iff.mpr c7
     subst c7
     have H1 : (spec_l18Well.l0 kj1 0 a0_0 l0_1 l0_2) = some r := by rw [if_neg (show ¬ (false = true) by decide)] at H; exact H
     clear H
     have H := H1
     clear H1
     have H' := Aside0.mk H
     clear H
     go_wp2
     go_loopg [3] kj1 (fun kq v3 w' => ∃ (x3_2 : Int), v3 = .int .i64 x3_2 ∧ Aside0 (spec_l18Well.l0 kq x3_2 a0_0 l0_1 l0_2 = some r) ∧ Aside0 (kq ≤ kj1) ∧ Aside0 (w'.heap[gb444]? = some (.cells #[.int .i64 a0_0, (.slice A0_1 l0_1.length c0_1), (.slice A0_2 l0_2.length c0_2)] 29 (0, 0))) ∧ Aside0 (Below w.heap.size w w'))
     case atStart => exact ⟨(0), sz_, H', ⟨Nat.le_refl _⟩, ⟨ kz⟩, ⟨ bz⟩⟩
     case round =>
      clear H'
      obtain ⟨x3_2, rfl, HA, HK2, BK444, HB⟩ := hrel
      cases gk with
      | zero => exact absurd HA.out (by simp [spec_l18Well.l0])
      | succ k2 =>
       have H := HA.out
       clear HA
       simp only [spec_l18Well.l0] at H
       by_cases c8 : x3_2 < (l0_2.length : Int)
       · rw [if_pos c8] at H
         have c8b0 : decide (x3_2 < (l0_2.length : Int)) = true := decide_eq_true c8
         clear c8
         have H' := Aside0.mk H
         clear H
         have hcz9_0 : wr.cell? ⟨gb444, 0, none⟩ = some (.int .i64 a0_0) := (blk_cell BK444.out 0).trans rfl
         have hcz9_1 : wr.cell? ⟨gb444, 1, none⟩ = some (.slice A0_1 l0_1.length c0_1) := (blk_cell BK444.out 1).trans rfl
         have hcz9_2 : wr.cell? ⟨gb444, 2, none⟩ = some (.slice A0_2 l0_2.length c0_2) := (blk_cell BK444.out 2).trans rfl
         go_wp2
         go_loopg [4] k2 (fun kq v4 w' => ∃ (x4_3 : Int), v4 = .int .i64 x4_3 ∧ Aside0 (spec_l18Well.l1 kq x3_2 x4_3 a0_0 l0_1 l0_2 = some r) ∧ Aside0 (kq ≤ k2) ∧ Aside0 (w'.heap[gb444]? = some (.cells #[.int .i64 a0_0, (.slice A0_1 l0_1.length c0_1), (.slice A0_2 l0_2.length c0_2)] 29 (0, 0))) ∧ Aside0 (Below w.heap.size w w'))
         case atStart => exact ⟨(0), sz_, H', ⟨Nat.le_refl _⟩, ⟨ kz⟩, ⟨ bz⟩⟩
         case round =>
          clear H'
          obtain ⟨x4_3, rfl, HA, HK3, BK444, HB⟩ := hrel
          cases gk with
          | zero => exact absurd HA.out (by simp [spec_l18Well.l1])
          | succ k3 =>
           have H := HA.out
           clear HA
           simp only [spec_l18Well.l1] at H
           by_cases c10 : 0 ≤ x3_2
           · rw [if_pos c10] at H
             have c10b0 : decide (0 ≤ x3_2) = true := decide_eq_true c10
             clear c10
             by_cases c11 : x3_2 < (l0_2.length : Int)
             · rw [if_pos c11] at H
               have c11b0 : decide (x3_2 < (l0_2.length : Int)) = true := decide_eq_true c11
               clear c11
               by_cases c12 : x4_3 < (((rd_T85 l0_2 x3_2).f0).length : Int)
               · rw [if_pos c12] at H
                 have c12b0 : decide (x4_3 < (((rd_T85 l0_2 x3_2).f0).length : Int)) = true := decide_eq_true c12
                 clear c12
                 by_cases c13 : 0 ≤ x4_3
                 · rw [if_pos c13] at H
                   have c13b0 : decide (0 ≤ x4_3) = true := decide_eq_true c13
                   clear c13
                   have HC14 := Aside0.mk H
                   clear H
                   have hcz15_0 : wr.cell? ⟨gb444, 0, none⟩ = some (.int .i64 a0_0) := (blk_cell BK444.out 0).trans rfl
                   have hcz15_1 : wr.cell? ⟨gb444, 1, none⟩ = some (.slice A0_1 l0_1.length c0_1) := (blk_cell BK444.out 1).trans rfl
                   have hcz15_2 : wr.cell? ⟨gb444, 2, none⟩ = some (.slice A0_2 l0_2.length c0_2) := (blk_cell BK444.out 2).trans rfl
                   have p445 : 0 ≤ (x3_2 : Int) := of_decide_eq_true az
                   have q445 : x3_2 < (l0_2.length : Int) := of_decide_eq_true az
                   obtain ⟨ad445, A445_0, c445_0, e445, hx445_0, hl445_0, hi445_0⟩ := at_T85 HR0_2.out x3_2 p445 q445
                   cases e445
                   replace hx445_0 := ck HB hx445_0
                   have HR445_0 := Aside0.mk hi445_0
                   have HC445_0 := Aside0.mk hl445_0
                   clear hi445_0 hl445_0
                   replace p445 := eq_true p445
                   replace q445 := eq_true q445
                   have p446 : 0 ≤ (x3_2 : Int) := of_decide_eq_true az
                   have q446 : x3_2 < (l0_2.length : Int) := of_decide_eq_true az
                   obtain ⟨ad446, A446_0, c446_0, e446, hx446_0, hl446_0, hi446_0⟩ := at_T85 HR0_2.out x3_2 p446 q446
                   obtain rfl : ad445 = ad446 := (by injection e446)
                   replace hx446_0 := ck HB hx446_0
                   have HR446_0 := Aside0.mk hi446_0
                   have HC446_0 := Aside0.mk hl446_0
                   clear hi446_0 hl446_0
                   replace p446 := eq_true p446
                   replace q446 := eq_true q446
                   have ea_ := Option.some.inj (hx445_0.symm.trans hx446_0)
                   injection ea_ with ea_ en_ ec_
                   subst ea_
                   subst ec_
                   clear en_
                   have p447 : 0 ≤ (x4_3 : Int) := of_decide_eq_true az
                   have q447 : x4_3 < (((rd_T85 l0_2 x3_2).f0).length : Int) := of_decide_eq_true az
                   obtain ⟨ad447, A447_7, c447_7, e447, hx447_0, hx447_1, hx447_2, hx447_3, hx447_4, hx447_5, hx447_6, hx447_7, hl447_7, hi447_7⟩ := at_T87 HR446_0.out x4_3 p447 q447
                   cases e447
                   replace hx447_0 := ck HB hx447_0
                   replace hx447_1 := ck HB hx447_1
                   replace hx447_2 := ck HB hx447_2
                   replace hx447_3 := ck HB hx447_3
                   replace hx447_4 := ck HB hx447_4
                   replace hx447_5 := ck HB hx447_5
                   replace hx447_6 := ck HB hx447_6
                   replace hx447_7 := ck HB hx447_7
                   have HR447_7 := Aside0.mk hi447_7
                   have HC447_7 := Aside0.mk hl447_7
                   clear hi447_7 hl447_7
                   replace p447 := eq_true p447
                   replace q447 := eq_true q447
                   go_upto_region 10 with (first | ((with_reducible refine gate_dst (N := 5) rfl ?_); (try (refine gate_guard (by rfl) ?_; dsimp only)); refine box_event ?hg (N := 5) ?hd (cs := #[.int .i64 0, .int .i64 0, .int .i64 0, .int .i64 0, .int .i64 0, .int .i64 0, .string (⟨#[]⟩ : ByteArray), .slice none 0 0]) (t := 87) ?hr ?_; (case hd => rfl); (case hg => rfl); (case hr => first | (go_simp; done) | (go_simp; rfl)); intro gb448 hg w16 hbox hb; have n0_ := Aside0.mk (blk_below (g := gb444) (o := .cells #[.int .i64 a0_0, .slice A0_1 l0_1.length c0_1, .slice (some ad445) l0_2.length c0_2] 29 (0, 0)) kz hb); have n1_ := Aside0.mk (below_step bz hb); have n2_ := Aside0.mk (hbox); have n3_ := Aside0.mk ((by rw [hg]; exact (below_size bz) : w.heap.size ≤ gb448)); have n4_ := Aside0.mk ((by rw [hg]; exact (below_size bz) : w.heap.size ≤ gb448)); have n5_ := Aside0.mk ((by rw [hg]; exact Nat.ne_of_lt (blk_lt (g := gb444) (o := .cells #[.int .i64 a0_0, .slice A0_1 l0_1.length c0_1, .slice (some ad445) l0_2.length c0_2] 29 (0, 0)) kz) : gb444 ≠ gb448)); have n6_ := Aside0.mk ((by rw [hg]; exact Nat.ne_of_gt (blk_lt (g := gb444) (o := .cells #[.int .i64 a0_0, .slice A0_1 l0_1.length c0_1, .slice (some ad445) l0_2.length c0_2] 29 (0, 0)) kz) : gb448 ≠ gb444)); clear BK444; clear HB; have BK444 := n0_; have HB := n1_; have BK448 := n2_; have GW448 := n3_; have GE448 := n4_; have NB444_448 := n5_; have NB448_444 := n6_; clear n0_ n1_ n2_ n3_ n4_ n5_ n6_; clear hb hbox hg; have hnb17 := NB448_444.out; have hnc17 := NB444_448.out; have hcz18_0 : w16.cell? ⟨gb448, 0, none⟩ = some (.int .i64 0) := (blk_cell BK448.out 0).trans rfl; have hcz18_1 : w16.cell? ⟨gb448, 1, none⟩ = some (.int .i64 0) := (blk_cell BK448.out 1).trans rfl; have hcz18_2 : w16.cell? ⟨gb448, 2, none⟩ = some (.int .i64 0) := (blk_cell BK448.out 2).trans rfl; have hcz18_3 : w16.cell? ⟨gb448, 3, none⟩ = some (.int .i64 0) := (blk_cell BK448.out 3).trans rfl; have hcz18_4 : w16.cell? ⟨gb448, 4, none⟩ = some (.int .i64 0) := (blk_cell BK448.out 4).trans rfl; have hcz18_5 : w16.cell? ⟨gb448, 5, none⟩ = some (.int .i64 0) := (blk_cell BK448.out 5).trans rfl; have hcz18_6 : w16.cell? ⟨gb448, 6, none⟩ = some (.string (⟨#[]⟩ : ByteArray)) := (blk_cell BK448.out 6).trans rfl; have hcz18_7 : w16.cell? ⟨gb448, 7, none⟩ = some (.slice none 0 0) := (blk_cell BK448.out 7).trans rfl; have hfz18_0 := blk_frozen BK448.out 0; have hfz18_1 := blk_frozen BK448.out 1; have hfz18_2 := blk_frozen BK448.out 2; have hfz18_3 := blk_frozen BK448.out 3; have hfz18_4 := blk_frozen BK448.out 4; have hfz18_5 := blk_frozen BK448.out 5; have hfz18_6 := blk_frozen BK448.out 6; have hfz18_7 := blk_frozen BK448.out 7))
                   (try simp only [Act.put, sx1, sx2, sx3])
                   go_cut [57] (fun v57 wc => ∃ (kq : Nat) (x57_13 : Bool), v57 = .bool x57_13 ∧ Aside0 (spec_l18Well.j3 kq x3_2 x4_3 x57_13 a0_0 l0_1 l0_2 ((rd_T87 ((rd_T85 l0_2 x3_2).f0) x4_3).f0) ((rd_T87 ((rd_T85 l0_2 x3_2).f0) x4_3).f1) ((rd_T87 ((rd_T85 l0_2 x3_2).f0) x4_3).f2) ((rd_T87 ((rd_T85 l0_2 x3_2).f0) x4_3).f3) ((rd_T87 ((rd_T85 l0_2 x3_2).f0) x4_3).f4) ((rd_T87 ((rd_T85 l0_2 x3_2).f0) x4_3).f5) ((rd_T87 ((rd_T85 l0_2 x3_2).f0) x4_3).f6) ((rd_T87 ((rd_T85 l0_2 x3_2).f0) x4_3).f7) = some r) ∧ Aside0 (kq ≤ k3) ∧ Aside0 (wc.heap[gb444]? = some (.cells #[.int .i64 a0_0, (.slice A0_1 l0_1.length c0_1), (.slice (some ad445) l0_2.length c0_2)] 29 (0, 0))) ∧ Aside0 (wc.heap[gb448]? = some (.cells #[.int .i64 ((rd_T87 ((rd_T85 l0_2 x3_2).f0) x4_3).f0), .int .i64 ((rd_T87 ((rd_T85 l0_2 x3_2).f0) x4_3).f1), .int .i64 ((rd_T87 ((rd_T85 l0_2 x3_2).f0) x4_3).f2), .int .i64 ((rd_T87 ((rd_T85 l0_2 x3_2).f0) x4_3).f3), .int .i64 ((rd_T87 ((rd_T85 l0_2 x3_2).f0) x4_3).f4), .int .i64 ((rd_T87 ((rd_T85 l0_2 x3_2).f0) x4_3).f5), .string ((rd_T87 ((rd_T85 l0_2 x3_2).f0) x4_3).f6), (.slice A447_7 ((rd_T87 ((rd_T85 l0_2 x3_2).f0) x4_3).f7).length c447_7)] 87 (0, 0))) ∧ Aside0 (Below w.heap.size w wc))
                   case first =>
                    have H := HC14.out
                    clear HC14
                    replace H := Option.bind_eq_some_iff.mp H
                    obtain ⟨t449, A190, H⟩ := H
                    replace H : (if t449 = true then (spec_l18Well.j3 k3 x3_2 x4_3 false a0_0 l0_1 l0_2 ((rd_T87 ((rd_T85 l0_2 x3_2).f0) x4_3).f0) ((rd_T87 ((rd_T85 l0_2 x3_2).f0) x4_3).f1) ((rd_T87 ((rd_T85 l0_2 x3_2).f0) x4_3).f2) ((rd_T87 ((rd_T85 l0_2 x3_2).f0) x4_3).f3) ((rd_T87 ((rd_T85 l0_2 x3_2).f0) x4_3).f4) ((rd_T87 ((rd_T85 l0_2 x3_2).f0) x4_3).f5) ((rd_T87 ((rd_T85 l0_2 x3_2).f0) x4_3).f6) ((rd_T87 ((rd_T85 l0_2 x3_2).f0) x4_3).f7)) else (spec_l18Well.j3 k3 x3_2 x4_3 (decide (x4_3 < (wrap64 ((((rd_T85 l0_2 x3_2).f0).length : Int) - 1)))) a0_0 l0_1 l0_2 ((rd_T87 ((rd_T85 l0_2 x3_2).f0) x4_3).f0) ((rd_T87 ((rd_T85 l0_2 x3_2).f0) x4_3).f1) ((rd_T87 ((rd_T85 l0_2 x3_2).f0) x4_3).f2) ((rd_T87 ((rd_T85 l0_2 x3_2).f0) x4_3).f3) ((rd_T87 ((rd_T85 l0_2 x3_2).f0) x4_3).f4) ((rd_T87 ((rd_T85 l0_2 x3_2).f0) x4_3).f5) ((rd_T87 ((rd_T85 l0_2 x3_2).f0) x4_3).f6) ((rd_T87 ((rd_T85 l0_2 x3_2).f0) x4_3).f7))) = some r := H
                    have A19 := Aside0.mk A190
                    clear A190
                    by_cases c20 : t449 = true
                    · subst c20
                      have H1 : (spec_l18Well.j3 k3 x3_2 x4_3 false a0_0 l0_1 l0_2 ((rd_T87 ((rd_T85 l0_2 x3_2).f0) x4_3).f0) ((rd_T87 ((rd_T85 l0_2 x3_2).f0) x4_3).f1) ((rd_T87 ((rd_T85 l0_2 x3_2).f0) x4_3).f2) ((rd_T87 ((rd_T85 l0_2 x3_2).f0) x4_3).f3) ((rd_T87 ((rd_T85 l0_2 x3_2).f0) x4_3).f4) ((rd_T87 ((rd_T85 l0_2 x3_2).f0) x4_3).f5) ((rd_T87 ((rd_T85 l0_2 x3_2).f0) x4_3).f6) ((rd_T87 ((rd_T85 l0_2 x3_2).f0) x4_3).f7)) = some r := by rw [if_pos rfl] at H; exact H
                      clear H
                      have H := H1
                      clear H1
                      have H' := Aside0.mk H
                      clear H
                      have hnb21 := NB448_444.out
                      have hnc21 := NB444_448.out
                      have hcz22_0 : w16.cell? ⟨gb448, 0, none⟩ = some (.int .i64 0) := (blk_cell BK448.out 0).trans rfl
                      have hcz22_1 : w16.cell? ⟨gb448, 1, none⟩ = some (.int .i64 0) := (blk_cell BK448.out 1).trans rfl
                      have hcz22_2 : w16.cell? ⟨gb448, 2, none⟩ = some (.int .i64 0) := (blk_cell BK448.out 2).trans rfl
                      have hcz22_3 : w16.cell? ⟨gb448, 3, none⟩ = some (.int .i64 0) := (blk_cell BK448.out 3).trans rfl
                      have hcz22_4 : w16.cell? ⟨gb448, 4, none⟩ = some (.int .i64 0) := (blk_cell BK448.out 4).trans rfl
                      have hcz22_5 : w16.cell? ⟨gb448, 5, none⟩ = some (.int .i64 0) := (blk_cell BK448.out 5).trans rfl
                      have hcz22_6 : w16.cell? ⟨gb448, 6, none⟩ = some (.string (⟨#[]⟩ : ByteArray)) := (blk_cell BK448.out 6).trans rfl
                      have hcz22_7 : w16.cell? ⟨gb448, 7, none⟩ = some (.slice none 0 0) := (blk_cell BK448.out 7).trans rfl
                      go_wp2_with (first | ((with_reducible refine gate_callee (f := 127) rfl ?_); refine goesL_ (some 44) rfl rfl Try.func127 (by kernel_rfl) rfl #[.agg #[.int .i64 ((rd_T87 ((rd_T85 l0_2 x3_2).f0) x4_3).f0), .int .i64 ((rd_T87 ((rd_T85 l0_2 x3_2).f0) x4_3).f1), .int .i64 ((rd_T87 ((rd_T85 l0_2 x3_2).f0) x4_3).f2), .int .i64 ((rd_T87 ((rd_T85 l0_2 x3_2).f0) x4_3).f3), .int .i64 ((rd_T87 ((rd_T85 l0_2 x3_2).f0) x4_3).f4), .int .i64 ((rd_T87 ((rd_T85 l0_2 x3_2).f0) x4_3).f5), .string ((rd_T87 ((rd_T85 l0_2 x3_2).f0) x4_3).f6), .slice A447_7 ((rd_T87 ((rd_T85 l0_2 x3_2).f0) x4_3).f7).length c447_7]] rfl lz ?_; (with_reducible refine (spec_l18Goes.calls ((rd_T87 ((rd_T85 l0_2 x3_2).f0) x4_3).f0) ((rd_T87 ((rd_T85 l0_2 x3_2).f0) x4_3).f1) ((rd_T87 ((rd_T85 l0_2 x3_2).f0) x4_3).f2) ((rd_T87 ((rd_T85 l0_2 x3_2).f0) x4_3).f3) ((rd_T87 ((rd_T85 l0_2 x3_2).f0) x4_3).f4) ((rd_T87 ((rd_T85 l0_2 x3_2).f0) x4_3).f5) ((rd_T87 ((rd_T85 l0_2 x3_2).f0) x4_3).f6) _ _ ((rd_T87 ((rd_T85 l0_2 x3_2).f0) x4_3).f7) true _ ?side1 ?side2 A19.out).mono ?_); (case side1 => exact Kd.C_below HR447_7.out bz); (case side2 => exact HC447_7.out); rintro e w23 ⟨rfl, hb⟩; refine ⟨_, rfl, ?_⟩; have n0_ := Aside0.mk (blk_below (g := gb444) (o := .cells #[.int .i64 a0_0, .slice A0_1 l0_1.length c0_1, .slice (some ad445) l0_2.length c0_2] 29 (0, 0)) (by (with_reducible repeat (first | refine blk_drewN ?_ _ | refine blk_drew ?_ | refine blk_alloc ?_ _)); refine blk_far ?_ NB444_448.out _; (with_reducible repeat (first | refine blk_drewN ?_ _ | refine blk_drew ?_ | refine blk_alloc ?_ _)); refine blk_far ?_ NB444_448.out _; (with_reducible repeat (first | refine blk_drewN ?_ _ | refine blk_drew ?_ | refine blk_alloc ?_ _)); refine blk_far ?_ NB444_448.out _; (with_reducible repeat (first | refine blk_drewN ?_ _ | refine blk_drew ?_ | refine blk_alloc ?_ _)); refine blk_far ?_ NB444_448.out _; (with_reducible repeat (first | refine blk_drewN ?_ _ | refine blk_drew ?_ | refine blk_alloc ?_ _)); refine blk_far ?_ NB444_448.out _; (with_reducible repeat (first | refine blk_drewN ?_ _ | refine blk_drew ?_ | refine blk_alloc ?_ _)); refine blk_far ?_ NB444_448.out _; (with_reducible repeat (first | refine blk_drewN ?_ _ | refine blk_drew ?_ | refine blk_alloc ?_ _)); refine blk_far ?_ NB444_448.out _; (with_reducible repeat (first | refine blk_drewN ?_ _ | refine blk_drew ?_ | refine blk_alloc ?_ _)); refine blk_far ?_ NB444_448.out _; (with_reducible repeat (first | refine blk_drewN ?_ _ | refine blk_drew ?_ | refine blk_alloc ?_ _)); exact BK444.out) hb); have n1_ := Aside0.mk (blk_below (g := gb448) (o := .cells #[.int .i64 ((rd_T87 ((rd_T85 l0_2 x3_2).f0) x4_3).f0), .int .i64 ((rd_T87 ((rd_T85 l0_2 x3_2).f0) x4_3).f1), .int .i64 ((rd_T87 ((rd_T85 l0_2 x3_2).f0) x4_3).f2), .int .i64 ((rd_T87 ((rd_T85 l0_2 x3_2).f0) x4_3).f3), .int .i64 ((rd_T87 ((rd_T85 l0_2 x3_2).f0) x4_3).f4), .int .i64 ((rd_T87 ((rd_T85 l0_2 x3_2).f0) x4_3).f5), .string ((rd_T87 ((rd_T85 l0_2 x3_2).f0) x4_3).f6), .slice A447_7 ((rd_T87 ((rd_T85 l0_2 x3_2).f0) x4_3).f7).length c447_7] 87 (0, 0)) (by (with_reducible repeat (first | refine blk_drewN ?_ _ | refine blk_drew ?_ | refine blk_alloc ?_ _)); refine blk_put (cs := #[.int .i64 ((rd_T87 ((rd_T85 l0_2 x3_2).f0) x4_3).f0), .int .i64 ((rd_T87 ((rd_T85 l0_2 x3_2).f0) x4_3).f1), .int .i64 ((rd_T87 ((rd_T85 l0_2 x3_2).f0) x4_3).f2), .int .i64 ((rd_T87 ((rd_T85 l0_2 x3_2).f0) x4_3).f3), .int .i64 ((rd_T87 ((rd_T85 l0_2 x3_2).f0) x4_3).f4), .int .i64 ((rd_T87 ((rd_T85 l0_2 x3_2).f0) x4_3).f5), .string ((rd_T87 ((rd_T85 l0_2 x3_2).f0) x4_3).f6), .slice none 0 0]) ?_ 7 _ rfl; (with_reducible repeat (first | refine blk_drewN ?_ _ | refine blk_drew ?_ | refine blk_alloc ?_ _)); refine blk_put (cs := #[.int .i64 ((rd_T87 ((rd_T85 l0_2 x3_2).f0) x4_3).f0), .int .i64 ((rd_T87 ((rd_T85 l0_2 x3_2).f0) x4_3).f1), .int .i64 ((rd_T87 ((rd_T85 l0_2 x3_2).f0) x4_3).f2), .int .i64 ((rd_T87 ((rd_T85 l0_2 x3_2).f0) x4_3).f3), .int .i64 ((rd_T87 ((rd_T85 l0_2 x3_2).f0) x4_3).f4), .int .i64 ((rd_T87 ((rd_T85 l0_2 x3_2).f0) x4_3).f5), .string (⟨#[]⟩ : ByteArray), .slice none 0 0]) ?_ 6 _ rfl; (with_reducible repeat (first | refine blk_drewN ?_ _ | refine blk_drew ?_ | refine blk_alloc ?_ _)); refine blk_put (cs := #[.int .i64 ((rd_T87 ((rd_T85 l0_2 x3_2).f0) x4_3).f0), .int .i64 ((rd_T87 ((rd_T85 l0_2 x3_2).f0) x4_3).f1), .int .i64 ((rd_T87 ((rd_T85 l0_2 x3_2).f0) x4_3).f2), .int .i64 ((rd_T87 ((rd_T85 l0_2 x3_2).f0) x4_3).f3), .int .i64 ((rd_T87 ((rd_T85 l0_2 x3_2).f0) x4_3).f4), .int .i64 0, .string (⟨#[]⟩ : ByteArray), .slice none 0 0]) ?_ 5 _ rfl; (with_reducible repeat (first | refine blk_drewN ?_ _ | refine blk_drew ?_ | refine blk_alloc ?_ _)); refine blk_put (cs := #[.int .i64 ((rd_T87 ((rd_T85 l0_2 x3_2).f0) x4_3).f0), .int .i64 ((rd_T87 ((rd_T85 l0_2 x3_2).f0) x4_3).f1), .int .i64 ((rd_T87 ((rd_T85 l0_2 x3_2).f0) x4_3).f2), .int .i64 ((rd_T87 ((rd_T85 l0_2 x3_2).f0) x4_3).f3), .int .i64 0, .int .i64 0, .string (⟨#[]⟩ : ByteArray), .slice none 0 0]) ?_ 4 _ rfl; (with_reducible repeat (first | refine blk_drewN ?_ _ | refine blk_drew ?_ | refine blk_alloc ?_ _)); refine blk_put (cs := #[.int .i64 ((rd_T87 ((rd_T85 l0_2 x3_2).f0) x4_3).f0), .int .i64 ((rd_T87 ((rd_T85 l0_2 x3_2).f0) x4_3).f1), .int .i64 ((rd_T87 ((rd_T85 l0_2 x3_2).f0) x4_3).f2), .int .i64 0, .int .i64 0, .int .i64 0, .string (⟨#[]⟩ : ByteArray), .slice none 0 0]) ?_ 3 _ rfl; (with_reducible repeat (first | refine blk_drewN ?_ _ | refine blk_drew ?_ | refine blk_alloc ?_ _)); refine blk_put (cs := #[.int .i64 ((rd_T87 ((rd_T85 l0_2 x3_2).f0) x4_3).f0), .int .i64 ((rd_T87 ((rd_T85 l0_2 x3_2).f0) x4_3).f1), .int .i64 0, .int .i64 0, .int .i64 0, .int .i64 0, .string (⟨#[]⟩ : ByteArray), .slice none 0 0]) ?_ 2 _ rfl; (with_reducible repeat (first | refine blk_drewN ?_ _ | refine blk_drew ?_ | refine blk_alloc ?_ _)); refine blk_put (cs := #[.int .i64 ((rd_T87 ((rd_T85 l0_2 x3_2).f0) x4_3).f0), .int .i64 0, .int .i64 0, .int .i64 0, .int .i64 0, .int .i64 0, .string (⟨#[]⟩ : ByteArray), .slice none 0 0]) ?_ 1 _ rfl; (with_reducible repeat (first | refine blk_drewN ?_ _ | refine blk_drew ?_ | refine blk_alloc ?_ _)); refine blk_put (cs := #[.int .i64 0, .int .i64 0, .int .i64 0, .int .i64 0, .int .i64 0, .int .i64 0, .string (⟨#[]⟩ : ByteArray), .slice none 0 0]) ?_ 0 _ rfl; (with_reducible repeat (first | refine blk_drewN ?_ _ | refine blk_drew ?_ | refine blk_alloc ?_ _)); exact BK448.out) hb); have n2_ := Aside0.mk (below_step bz hb); clear BK444; clear BK448; clear HB; have BK444 := n0_; have BK448 := n1_; have HB := n2_; clear n0_ n1_ n2_; (try clear hb); (try clear hb2); (try clear hk); (try clear hi)))
                      go_meet
                      case rel => exact ⟨_, (false), sz_, H', ⟨by have := HJ1.out; have := HK2.out; have := HK3.out; first | omega | exact Nat.le_refl _⟩, ⟨ kz⟩, ⟨ kz⟩, ⟨ bz⟩⟩
                    · replace c20 := Bool.eq_false_iff.mpr c20
                      subst c20
                      have H1 : (spec_l18Well.j3 k3 x3_2 x4_3 (decide (x4_3 < (wrap64 ((((rd_T85 l0_2 x3_2).f0).length : Int) - 1)))) a0_0 l0_1 l0_2 ((rd_T87 ((rd_T85 l0_2 x3_2).f0) x4_3).f0) ((rd_T87 ((rd_T85 l0_2 x3_2).f0) x4_3).f1) ((rd_T87 ((rd_T85 l0_2 x3_2).f0) x4_3).f2) ((rd_T87 ((rd_T85 l0_2 x3_2).f0) x4_3).f3) ((rd_T87 ((rd_T85 l0_2 x3_2).f0) x4_3).f4) ((rd_T87 ((rd_T85 l0_2 x3_2).f0) x4_3).f5) ((rd_T87 ((rd_T85 l0_2 x3_2).f0) x4_3).f6) ((rd_T87 ((rd_T85 l0_2 x3_2).f0) x4_3).f7)) = some r := by rw [if_neg (show ¬ (false = true) by decide)] at H; exact H
                      clear H
                      have H := H1
                      clear H1
                      have H' := Aside0.mk H
                      clear H
                      have hnb24 := NB448_444.out
                      have hnc24 := NB444_448.out
                      have hcz25_0 : w16.cell? ⟨gb448, 0, none⟩ = some (.int .i64 0) := (blk_cell BK448.out 0).trans rfl
                      have hcz25_1 : w16.cell? ⟨gb448, 1, none⟩ = some (.int .i64 0) := (blk_cell BK448.out 1).trans rfl
                      have hcz25_2 : w16.cell? ⟨gb448, 2, none⟩ = some (.int .i64 0) := (blk_cell BK448.out 2).trans rfl
                      have hcz25_3 : w16.cell? ⟨gb448, 3, none⟩ = some (.int .i64 0) := (blk_cell BK448.out 3).trans rfl
                      have hcz25_4 : w16.cell? ⟨gb448, 4, none⟩ = some (.int .i64 0) := (blk_cell BK448.out 4).trans rfl
                      have hcz25_5 : w16.cell? ⟨gb448, 5, none⟩ = some (.int .i64 0) := (blk_cell BK448.out 5).trans rfl
                      have hcz25_6 : w16.cell? ⟨gb448, 6, none⟩ = some (.string (⟨#[]⟩ : ByteArray)) := (blk_cell BK448.out 6).trans rfl
                      have hcz25_7 : w16.cell? ⟨gb448, 7, none⟩ = some (.slice none 0 0) := (blk_cell BK448.out 7).trans rfl
                      go_wp2_with (first | ((with_reducible refine gate_callee (f := 127) rfl ?_); refine goesL_ (some 44) rfl rfl Try.func127 (by kernel_rfl) rfl #[.agg #[.int .i64 ((rd_T87 ((rd_T85 l0_2 x3_2).f0) x4_3).f0), .int .i64 ((rd_T87 ((rd_T85 l0_2 x3_2).f0) x4_3).f1), .int .i64 ((rd_T87 ((rd_T85 l0_2 x3_2).f0) x4_3).f2), .int .i64 ((rd_T87 ((rd_T85 l0_2 x3_2).f0) x4_3).f3), .int .i64 ((rd_T87 ((rd_T85 l0_2 x3_2).f0) x4_3).f4), .int .i64 ((rd_T87 ((rd_T85 l0_2 x3_2).f0) x4_3).f5), .string ((rd_T87 ((rd_T85 l0_2 x3_2).f0) x4_3).f6), .slice A447_7 ((rd_T87 ((rd_T85 l0_2 x3_2).f0) x4_3).f7).length c447_7]] rfl lz ?_; (with_reducible refine (spec_l18Goes.calls ((rd_T87 ((rd_T85 l0_2 x3_2).f0) x4_3).f0) ((rd_T87 ((rd_T85 l0_2 x3_2).f0) x4_3).f1) ((rd_T87 ((rd_T85 l0_2 x3_2).f0) x4_3).f2) ((rd_T87 ((rd_T85 l0_2 x3_2).f0) x4_3).f3) ((rd_T87 ((rd_T85 l0_2 x3_2).f0) x4_3).f4) ((rd_T87 ((rd_T85 l0_2 x3_2).f0) x4_3).f5) ((rd_T87 ((rd_T85 l0_2 x3_2).f0) x4_3).f6) _ _ ((rd_T87 ((rd_T85 l0_2 x3_2).f0) x4_3).f7) false _ ?side1 ?side2 A19.out).mono ?_); (case side1 => exact Kd.C_below HR447_7.out bz); (case side2 => exact HC447_7.out); rintro e w26 ⟨rfl, hb⟩; refine ⟨_, rfl, ?_⟩; have n0_ := Aside0.mk (blk_below (g := gb444) (o := .cells #[.int .i64 a0_0, .slice A0_1 l0_1.length c0_1, .slice (some ad445) l0_2.length c0_2] 29 (0, 0)) (by (with_reducible repeat (first | refine blk_drewN ?_ _ | refine blk_drew ?_ | refine blk_alloc ?_ _)); refine blk_far ?_ NB444_448.out _; (with_reducible repeat (first | refine blk_drewN ?_ _ | refine blk_drew ?_ | refine blk_alloc ?_ _)); refine blk_far ?_ NB444_448.out _; (with_reducible repeat (first | refine blk_drewN ?_ _ | refine blk_drew ?_ | refine blk_alloc ?_ _)); refine blk_far ?_ NB444_448.out _; (with_reducible repeat (first | refine blk_drewN ?_ _ | refine blk_drew ?_ | refine blk_alloc ?_ _)); refine blk_far ?_ NB444_448.out _; (with_reducible repeat (first | refine blk_drewN ?_ _ | refine blk_drew ?_ | refine blk_alloc ?_ _)); refine blk_far ?_ NB444_448.out _; (with_reducible repeat (first | refine blk_drewN ?_ _ | refine blk_drew ?_ | refine blk_alloc ?_ _)); refine blk_far ?_ NB444_448.out _; (with_reducible repeat (first | refine blk_drewN ?_ _ | refine blk_drew ?_ | refine blk_alloc ?_ _)); refine blk_far ?_ NB444_448.out _; (with_reducible repeat (first | refine blk_drewN ?_ _ | refine blk_drew ?_ | refine blk_alloc ?_ _)); refine blk_far ?_ NB444_448.out _; (with_reducible repeat (first | refine blk_drewN ?_ _ | refine blk_drew ?_ | refine blk_alloc ?_ _)); exact BK444.out) hb); have n1_ := Aside0.mk (blk_below (g := gb448) (o := .cells #[.int .i64 ((rd_T87 ((rd_T85 l0_2 x3_2).f0) x4_3).f0), .int .i64 ((rd_T87 ((rd_T85 l0_2 x3_2).f0) x4_3).f1), .int .i64 ((rd_T87 ((rd_T85 l0_2 x3_2).f0) x4_3).f2), .int .i64 ((rd_T87 ((rd_T85 l0_2 x3_2).f0) x4_3).f3), .int .i64 ((rd_T87 ((rd_T85 l0_2 x3_2).f0) x4_3).f4), .int .i64 ((rd_T87 ((rd_T85 l0_2 x3_2).f0) x4_3).f5), .string ((rd_T87 ((rd_T85 l0_2 x3_2).f0) x4_3).f6), .slice A447_7 ((rd_T87 ((rd_T85 l0_2 x3_2).f0) x4_3).f7).length c447_7] 87 (0, 0)) (by (with_reducible repeat (first | refine blk_drewN ?_ _ | refine blk_drew ?_ | refine blk_alloc ?_ _)); refine blk_put (cs := #[.int .i64 ((rd_T87 ((rd_T85 l0_2 x3_2).f0) x4_3).f0), .int .i64 ((rd_T87 ((rd_T85 l0_2 x3_2).f0) x4_3).f1), .int .i64 ((rd_T87 ((rd_T85 l0_2 x3_2).f0) x4_3).f2), .int .i64 ((rd_T87 ((rd_T85 l0_2 x3_2).f0) x4_3).f3), .int .i64 ((rd_T87 ((rd_T85 l0_2 x3_2).f0) x4_3).f4), .int .i64 ((rd_T87 ((rd_T85 l0_2 x3_2).f0) x4_3).f5), .string ((rd_T87 ((rd_T85 l0_2 x3_2).f0) x4_3).f6), .slice none 0 0]) ?_ 7 _ rfl; (with_reducible repeat (first | refine blk_drewN ?_ _ | refine blk_drew ?_ | refine blk_alloc ?_ _)); refine blk_put (cs := #[.int .i64 ((rd_T87 ((rd_T85 l0_2 x3_2).f0) x4_3).f0), .int .i64 ((rd_T87 ((rd_T85 l0_2 x3_2).f0) x4_3).f1), .int .i64 ((rd_T87 ((rd_T85 l0_2 x3_2).f0) x4_3).f2), .int .i64 ((rd_T87 ((rd_T85 l0_2 x3_2).f0) x4_3).f3), .int .i64 ((rd_T87 ((rd_T85 l0_2 x3_2).f0) x4_3).f4), .int .i64 ((rd_T87 ((rd_T85 l0_2 x3_2).f0) x4_3).f5), .string (⟨#[]⟩ : ByteArray), .slice none 0 0]) ?_ 6 _ rfl; (with_reducible repeat (first | refine blk_drewN ?_ _ | refine blk_drew ?_ | refine blk_alloc ?_ _)); refine blk_put (cs := #[.int .i64 ((rd_T87 ((rd_T85 l0_2 x3_2).f0) x4_3).f0), .int .i64 ((rd_T87 ((rd_T85 l0_2 x3_2).f0) x4_3).f1), .int .i64 ((rd_T87 ((rd_T85 l0_2 x3_2).f0) x4_3).f2), .int .i64 ((rd_T87 ((rd_T85 l0_2 x3_2).f0) x4_3).f3), .int .i64 ((rd_T87 ((rd_T85 l0_2 x3_2).f0) x4_3).f4), .int .i64 0, .string (⟨#[]⟩ : ByteArray), .slice none 0 0]) ?_ 5 _ rfl; (with_reducible repeat (first | refine blk_drewN ?_ _ | refine blk_drew ?_ | refine blk_alloc ?_ _)); refine blk_put (cs := #[.int .i64 ((rd_T87 ((rd_T85 l0_2 x3_2).f0) x4_3).f0), .int .i64 ((rd_T87 ((rd_T85 l0_2 x3_2).f0) x4_3).f1), .int .i64 ((rd_T87 ((rd_T85 l0_2 x3_2).f0) x4_3).f2), .int .i64 ((rd_T87 ((rd_T85 l0_2 x3_2).f0) x4_3).f3), .int .i64 0, .int .i64 0, .string (⟨#[]⟩ : ByteArray), .slice none 0 0]) ?_ 4 _ rfl; (with_reducible repeat (first | refine blk_drewN ?_ _ | refine blk_drew ?_ | refine blk_alloc ?_ _)); refine blk_put (cs := #[.int .i64 ((rd_T87 ((rd_T85 l0_2 x3_2).f0) x4_3).f0), .int .i64 ((rd_T87 ((rd_T85 l0_2 x3_2).f0) x4_3).f1), .int .i64 ((rd_T87 ((rd_T85 l0_2 x3_2).f0) x4_3).f2), .int .i64 0, .int .i64 0, .int .i64 0, .string (⟨#[]⟩ : ByteArray), .slice none 0 0]) ?_ 3 _ rfl; (with_reducible repeat (first | refine blk_drewN ?_ _ | refine blk_drew ?_ | refine blk_alloc ?_ _)); refine blk_put (cs := #[.int .i64 ((rd_T87 ((rd_T85 l0_2 x3_2).f0) x4_3).f0), .int .i64 ((rd_T87 ((rd_T85 l0_2 x3_2).f0) x4_3).f1), .int .i64 0, .int .i64 0, .int .i64 0, .int .i64 0, .string (⟨#[]⟩ : ByteArray), .slice none 0 0]) ?_ 2 _ rfl; (with_reducible repeat (first | refine blk_drewN ?_ _ | refine blk_drew ?_ | refine blk_alloc ?_ _)); refine blk_put (cs := #[.int .i64 ((rd_T87 ((rd_T85 l0_2 x3_2).f0) x4_3).f0), .int .i64 0, .int .i64 0, .int .i64 0, .int .i64 0, .int .i64 0, .string (⟨#[]⟩ : ByteArray), .slice none 0 0]) ?_ 1 _ rfl; (with_reducible repeat (first | refine blk_drewN ?_ _ | refine blk_drew ?_ | refine blk_alloc ?_ _)); refine blk_put (cs := #[.int .i64 0, .int .i64 0, .int .i64 0, .int .i64 0, .int .i64 0, .int .i64 0, .string (⟨#[]⟩ : ByteArray), .slice none 0 0]) ?_ 0 _ rfl; (with_reducible repeat (first | refine blk_drewN ?_ _ | refine blk_drew ?_ | refine blk_alloc ?_ _)); exact BK448.out) hb); have n2_ := Aside0.mk (below_step bz hb); clear BK444; clear BK448; clear HB; have BK444 := n0_; have BK448 := n1_; have HB := n2_; clear n0_ n1_ n2_; (try clear hb); (try clear hb2); (try clear hk); (try clear hi); have hcz27_0 : w26.cell? ⟨gb444, 0, none⟩ = some (.int .i64 a0_0) := (blk_cell BK444.out 0).trans rfl; have hcz27_1 : w26.cell? ⟨gb444, 1, none⟩ = some (.slice A0_1 l0_1.length c0_1) := (blk_cell BK444.out 1).trans rfl; have hcz27_2 : w26.cell? ⟨gb444, 2, none⟩ = some (.slice (some ad445) l0_2.length c0_2) := (blk_cell BK444.out 2).trans rfl; have hfz27_0 := blk_frozen BK444.out 0; have hfz27_1 := blk_frozen BK444.out 1; have hfz27_2 := blk_frozen BK444.out 2; have p450 : 0 ≤ (x3_2 : Int) := of_decide_eq_true az; have q450 : x3_2 < (l0_2.length : Int) := of_decide_eq_true az; obtain ⟨ad450, A450_0, c450_0, e450, hx450_0, hl450_0, hi450_0⟩ := at_T85 HR0_2.out x3_2 p450 q450; obtain rfl : ad445 = ad450 := (by injection e450); replace hx450_0 := (HB.out.cell (World.block_lt_of_cell? w _ hx450_0)).trans hx450_0; have HR450_0 := Aside0.mk hi450_0; have HC450_0 := Aside0.mk hl450_0; clear hi450_0 hl450_0; replace p450 := eq_true p450; replace q450 := eq_true q450))
                      go_meet
                      case rel => exact ⟨_, (decide (x4_3 < (wrap64 ((((rd_T85 l0_2 x3_2).f0).length : Int) - 1)))), sz_, H', ⟨by have := HJ1.out; have := HK2.out; have := HK3.out; first | omega | exact Nat.le_refl _⟩, ⟨ kz⟩, ⟨ kz⟩, ⟨ bz⟩⟩
                   case rest =>
                    clear HC14
                    obtain ⟨kq, x57_13, rfl, HA, HJ13, BK444, BK448, HB⟩ := hcut
                    cases kq with
                    | zero => exact absurd HA.out (by simp [spec_l18Well.j3])
                    | succ kj13 =>
                     have H := HA.out
                     clear HA
                     simp only [spec_l18Well.j3] at H
                     by_cases c28 : x57_13 = true
                     · subst c28
                       have H1 : (some false) = some r := by rw [if_pos rfl] at H; exact H
                       clear H
                       have H := H1
                       clear H1
                       obtain rfl := Option.some.inj H
                       go_wp2
                       go_ret
                       exact ⟨by first | rfl | (simp [errW_none, errW_some] <;> rfl) | (simp [*, errW_none, errW_some] <;> rfl), bz⟩
                     · replace c28 := Bool.eq_false_iff.mpr c28
                       subst c28
                       have H1 : (if ((rd_T87 ((rd_T85 l0_2 x3_2).f0) x4_3).f0) = 23 then ((spec_l18Jumps.f a0_0 l0_1 l0_2 ((rd_T87 ((rd_T85 l0_2 x3_2).f0) x4_3).f0) ((rd_T87 ((rd_T85 l0_2 x3_2).f0) x4_3).f1) ((rd_T87 ((rd_T85 l0_2 x3_2).f0) x4_3).f2) ((rd_T87 ((rd_T85 l0_2 x3_2).f0) x4_3).f3) ((rd_T87 ((rd_T85 l0_2 x3_2).f0) x4_3).f4) ((rd_T87 ((rd_T85 l0_2 x3_2).f0) x4_3).f5) ((rd_T87 ((rd_T85 l0_2 x3_2).f0) x4_3).f6) ((rd_T87 ((rd_T85 l0_2 x3_2).f0) x4_3).f7)).bind fun t451 => (spec_l18Well.j4 kj13 x3_2 x4_3 (decide (t451 < 0)) a0_0 l0_1 l0_2 ((rd_T87 ((rd_T85 l0_2 x3_2).f0) x4_3).f0) ((rd_T87 ((rd_T85 l0_2 x3_2).f0) x4_3).f1) ((rd_T87 ((rd_T85 l0_2 x3_2).f0) x4_3).f2) ((rd_T87 ((rd_T85 l0_2 x3_2).f0) x4_3).f3) ((rd_T87 ((rd_T85 l0_2 x3_2).f0) x4_3).f4) ((rd_T87 ((rd_T85 l0_2 x3_2).f0) x4_3).f5) ((rd_T87 ((rd_T85 l0_2 x3_2).f0) x4_3).f6) ((rd_T87 ((rd_T85 l0_2 x3_2).f0) x4_3).f7))) else (if ((rd_T87 ((rd_T85 l0_2 x3_2).f0) x4_3).f0) = 24 then ((spec_l18Jumps.f a0_0 l0_1 l0_2 ((rd_T87 ((rd_T85 l0_2 x3_2).f0) x4_3).f0) ((rd_T87 ((rd_T85 l0_2 x3_2).f0) x4_3).f1) ((rd_T87 ((rd_T85 l0_2 x3_2).f0) x4_3).f2) ((rd_T87 ((rd_T85 l0_2 x3_2).f0) x4_3).f3) ((rd_T87 ((rd_T85 l0_2 x3_2).f0) x4_3).f4) ((rd_T87 ((rd_T85 l0_2 x3_2).f0) x4_3).f5) ((rd_T87 ((rd_T85 l0_2 x3_2).f0) x4_3).f6) ((rd_T87 ((rd_T85 l0_2 x3_2).f0) x4_3).f7)).bind fun t452 => (spec_l18Well.j4 kj13 x3_2 x4_3 (decide (t452 < 0)) a0_0 l0_1 l0_2 ((rd_T87 ((rd_T85 l0_2 x3_2).f0) x4_3).f0) ((rd_T87 ((rd_T85 l0_2 x3_2).f0) x4_3).f1) ((rd_T87 ((rd_T85 l0_2 x3_2).f0) x4_3).f2) ((rd_T87 ((rd_T85 l0_2 x3_2).f0) x4_3).f3) ((rd_T87 ((rd_T85 l0_2 x3_2).f0) x4_3).f4) ((rd_T87 ((rd_T85 l0_2 x3_2).f0) x4_3).f5) ((rd_T87 ((rd_T85 l0_2 x3_2).f0) x4_3).f6) ((rd_T87 ((rd_T85 l0_2 x3_2).f0) x4_3).f7))) else (if ((rd_T87 ((rd_T85 l0_2 x3_2).f0) x4_3).f0) = 25 then ((spec_l18Jumps.f a0_0 l0_1 l0_2 ((rd_T87 ((rd_T85 l0_2 x3_2).f0) x4_3).f0) ((rd_T87 ((rd_T85 l0_2 x3_2).f0) x4_3).f1) ((rd_T87 ((rd_T85 l0_2 x3_2).f0) x4_3).f2) ((rd_T87 ((rd_T85 l0_2 x3_2).f0) x4_3).f3) ((rd_T87 ((rd_T85 l0_2 x3_2).f0) x4_3).f4) ((rd_T87 ((rd_T85 l0_2 x3_2).f0) x4_3).f5) ((rd_T87 ((rd_T85 l0_2 x3_2).f0) x4_3).f6) ((rd_T87 ((rd_T85 l0_2 x3_2).f0) x4_3).f7)).bind fun t453 => (spec_l18Well.j4 kj13 x3_2 x4_3 (decide (t453 < 0)) a0_0 l0_1 l0_2 ((rd_T87 ((rd_T85 l0_2 x3_2).f0) x4_3).f0) ((rd_T87 ((rd_T85 l0_2 x3_2).f0) x4_3).f1) ((rd_T87 ((rd_T85 l0_2 x3_2).f0) x4_3).f2) ((rd_T87 ((rd_T85 l0_2 x3_2).f0) x4_3).f3) ((rd_T87 ((rd_T85 l0_2 x3_2).f0) x4_3).f4) ((rd_T87 ((rd_T85 l0_2 x3_2).f0) x4_3).f5) ((rd_T87 ((rd_T85 l0_2 x3_2).f0) x4_3).f6) ((rd_T87 ((rd_T85 l0_2 x3_2).f0) x4_3).f7))) else (spec_l18Well.j4 kj13 x3_2 x4_3 false a0_0 l0_1 l0_2 ((rd_T87 ((rd_T85 l0_2 x3_2).f0) x4_3).f0) ((rd_T87 ((rd_T85 l0_2 x3_2).f0) x4_3).f1) ((rd_T87 ((rd_T85 l0_2 x3_2).f0) x4_3).f2) ((rd_T87 ((rd_T85 l0_2 x3_2).f0) x4_3).f3) ((rd_T87 ((rd_T85 l0_2 x3_2).f0) x4_3).f4) ((rd_T87 ((rd_T85 l0_2 x3_2).f0) x4_3).f5) ((rd_T87 ((rd_T85 l0_2 x3_2).f0) x4_3).f6) ((rd_T87 ((rd_T85 l0_2 x3_2).f0) x4_3).f7))))) = some r := by rw [if_neg (show ¬ (false = true) by decide)] at H; exact H
                       clear H
                       have H := H1
                       clear H1
                       have HC29 := Aside0.mk H
                       clear H
                       go_upto_region 12 with (fail)
                       go_cut [76] (fun v76 wc => ∃ (kq : Nat) (x76_28 : Bool), v76 = .bool x76_28 ∧ Aside0 (spec_l18Well.j4 kq x3_2 x4_3 x76_28 a0_0 l0_1 l0_2 ((rd_T87 ((rd_T85 l0_2 x3_2).f0) x4_3).f0) ((rd_T87 ((rd_T85 l0_2 x3_2).f0) x4_3).f1) ((rd_T87 ((rd_T85 l0_2 x3_2).f0) x4_3).f2) ((rd_T87 ((rd_T85 l0_2 x3_2).f0) x4_3).f3) ((rd_T87 ((rd_T85 l0_2 x3_2).f0) x4_3).f4) ((rd_T87 ((rd_T85 l0_2 x3_2).f0) x4_3).f5) ((rd_T87 ((rd_T85 l0_2 x3_2).f0) x4_3).f6) ((rd_T87 ((rd_T85 l0_2 x3_2).f0) x4_3).f7) = some r) ∧ Aside0 (kq ≤ kj13) ∧ Aside0 (wc.heap[gb444]? = some (.cells #[.int .i64 a0_0, (.slice A0_1 l0_1.length c0_1), (.slice (some ad445) l0_2.length c0_2)] 29 (0, 0))) ∧ Aside0 (wc.heap[gb448]? = some (.cells #[.int .i64 ((rd_T87 ((rd_T85 l0_2 x3_2).f0) x4_3).f0), .int .i64 ((rd_T87 ((rd_T85 l0_2 x3_2).f0) x4_3).f1), .int .i64 ((rd_T87 ((rd_T85 l0_2 x3_2).f0) x4_3).f2), .int .i64 ((rd_T87 ((rd_T85 l0_2 x3_2).f0) x4_3).f3), .int .i64 ((rd_T87 ((rd_T85 l0_2 x3_2).f0) x4_3).f4), .int .i64 ((rd_T87 ((rd_T85 l0_2 x3_2).f0) x4_3).f5), .string ((rd_T87 ((rd_T85 l0_2 x3_2).f0) x4_3).f6), (.slice A447_7 ((rd_T87 ((rd_T85 l0_2 x3_2).f0) x4_3).f7).length c447_7)] 87 (0, 0))) ∧ Aside0 (Below w.heap.size w wc))
                       case first =>
                        have H := HC29.out
                        clear HC29
                        by_cases c30 : ((rd_T87 ((rd_T85 l0_2 x3_2).f0) x4_3).f0) = 23
                        · rw [if_pos c30] at H
                          have c30b0 : (((rd_T87 ((rd_T85 l0_2 x3_2).f0) x4_3).f0) == 23) = true := beq_iff_eq.mpr c30
                          have c30b1 : (((rd_T87 ((rd_T85 l0_2 x3_2).f0) x4_3).f0) != 23) = false := bne_eq_false_iff_eq.mpr c30
                          clear c30
                          (first | rw [c30b0] | (simp only [i64_w, i32_w]; rw [c30b0]) | skip)
                          replace H := Option.bind_eq_some_iff.mp H
                          obtain ⟨t451, A310, H⟩ := H
                          replace H : (spec_l18Well.j4 kj13 x3_2 x4_3 (decide (t451 < 0)) a0_0 l0_1 l0_2 ((rd_T87 ((rd_T85 l0_2 x3_2).f0) x4_3).f0) ((rd_T87 ((rd_T85 l0_2 x3_2).f0) x4_3).f1) ((rd_T87 ((rd_T85 l0_2 x3_2).f0) x4_3).f2) ((rd_T87 ((rd_T85 l0_2 x3_2).f0) x4_3).f3) ((rd_T87 ((rd_T85 l0_2 x3_2).f0) x4_3).f4) ((rd_T87 ((rd_T85 l0_2 x3_2).f0) x4_3).f5) ((rd_T87 ((rd_T85 l0_2 x3_2).f0) x4_3).f6) ((rd_T87 ((rd_T85 l0_2 x3_2).f0) x4_3).f7)) = some r := H
                          have A31 := Aside0.mk A310
                          clear A310
                          have H' := Aside0.mk H
                          clear H
                          have hnb32 := NB448_444.out
                          have hnc32 := NB444_448.out
                          have hcz33_0 : wc.cell? ⟨gb448, 0, none⟩ = some (.int .i64 ((rd_T87 ((rd_T85 l0_2 x3_2).f0) x4_3).f0)) := (blk_cell BK448.out 0).trans rfl
                          have hcz33_1 : wc.cell? ⟨gb448, 1, none⟩ = some (.int .i64 ((rd_T87 ((rd_T85 l0_2 x3_2).f0) x4_3).f1)) := (blk_cell BK448.out 1).trans rfl
                          have hcz33_2 : wc.cell? ⟨gb448, 2, none⟩ = some (.int .i64 ((rd_T87 ((rd_T85 l0_2 x3_2).f0) x4_3).f2)) := (blk_cell BK448.out 2).trans rfl
                          have hcz33_3 : wc.cell? ⟨gb448, 3, none⟩ = some (.int .i64 ((rd_T87 ((rd_T85 l0_2 x3_2).f0) x4_3).f3)) := (blk_cell BK448.out 3).trans rfl
                          have hcz33_4 : wc.cell? ⟨gb448, 4, none⟩ = some (.int .i64 ((rd_T87 ((rd_T85 l0_2 x3_2).f0) x4_3).f4)) := (blk_cell BK448.out 4).trans rfl
                          have hcz33_5 : wc.cell? ⟨gb448, 5, none⟩ = some (.int .i64 ((rd_T87 ((rd_T85 l0_2 x3_2).f0) x4_3).f5)) := (blk_cell BK448.out 5).trans rfl
                          have hcz33_6 : wc.cell? ⟨gb448, 6, none⟩ = some (.string ((rd_T87 ((rd_T85 l0_2 x3_2).f0) x4_3).f6)) := (blk_cell BK448.out 6).trans rfl
                          have hcz33_7 : wc.cell? ⟨gb448, 7, none⟩ = some (.slice A447_7 ((rd_T87 ((rd_T85 l0_2 x3_2).f0) x4_3).f7).length c447_7) := (blk_cell BK448.out 7).trans rfl
                          have hcz34_0 : wc.cell? ⟨gb444, 0, none⟩ = some (.int .i64 a0_0) := (blk_cell BK444.out 0).trans rfl
                          have hcz34_1 : wc.cell? ⟨gb444, 1, none⟩ = some (.slice A0_1 l0_1.length c0_1) := (blk_cell BK444.out 1).trans rfl
                          have hcz34_2 : wc.cell? ⟨gb444, 2, none⟩ = some (.slice (some ad445) l0_2.length c0_2) := (blk_cell BK444.out 2).trans rfl
                          go_wp2_with (first | (go_at_call 128; (with_reducible refine (spec_l18Jumps.calls a0_0 _ _ l0_1 _ _ l0_2 ((rd_T87 ((rd_T85 l0_2 x3_2).f0) x4_3).f0) ((rd_T87 ((rd_T85 l0_2 x3_2).f0) x4_3).f1) ((rd_T87 ((rd_T85 l0_2 x3_2).f0) x4_3).f2) ((rd_T87 ((rd_T85 l0_2 x3_2).f0) x4_3).f3) ((rd_T87 ((rd_T85 l0_2 x3_2).f0) x4_3).f4) ((rd_T87 ((rd_T85 l0_2 x3_2).f0) x4_3).f5) ((rd_T87 ((rd_T85 l0_2 x3_2).f0) x4_3).f6) _ _ ((rd_T87 ((rd_T85 l0_2 x3_2).f0) x4_3).f7) t451 _ ?side1 ?side2 ?side3 ?side4 ?side5 ?side6 A31.out).mono ?_); (case side1 => exact cz HR0_1.out); (case side2 => exact HC0_1.out); (case side3 => exact cz HR0_2.out); (case side4 => exact HC0_2.out); (case side5 => exact cz HR447_7.out); (case side6 => exact HC447_7.out); rintro e w35 ⟨rfl, hb⟩; have n0_ := Aside0.mk (blk_below (g := gb444) (o := .cells #[.int .i64 a0_0, .slice A0_1 l0_1.length c0_1, .slice (some ad445) l0_2.length c0_2] 29 (0, 0)) kz hb); have n1_ := Aside0.mk (blk_below (g := gb448) (o := .cells #[.int .i64 ((rd_T87 ((rd_T85 l0_2 x3_2).f0) x4_3).f0), .int .i64 ((rd_T87 ((rd_T85 l0_2 x3_2).f0) x4_3).f1), .int .i64 ((rd_T87 ((rd_T85 l0_2 x3_2).f0) x4_3).f2), .int .i64 ((rd_T87 ((rd_T85 l0_2 x3_2).f0) x4_3).f3), .int .i64 ((rd_T87 ((rd_T85 l0_2 x3_2).f0) x4_3).f4), .int .i64 ((rd_T87 ((rd_T85 l0_2 x3_2).f0) x4_3).f5), .string ((rd_T87 ((rd_T85 l0_2 x3_2).f0) x4_3).f6), .slice A447_7 ((rd_T87 ((rd_T85 l0_2 x3_2).f0) x4_3).f7).length c447_7] 87 (0, 0)) kz hb); have n2_ := Aside0.mk (below_step bz hb); clear BK444; clear BK448; clear HB; have BK444 := n0_; have BK448 := n1_; have HB := n2_; clear n0_ n1_ n2_; (try clear hb); (try clear hb2); (try clear hk); (try clear hi)))
                          go_meet
                          case rel => exact ⟨_, (decide (t451 < 0)), sz_, H', ⟨by have := HJ1.out; have := HK2.out; have := HK3.out; have := HJ13.out; first | omega | exact Nat.le_refl _⟩, ⟨ kz⟩, ⟨ kz⟩, ⟨ bz⟩⟩
                        · rw [if_neg c30] at H
                          have c30b0 : (((rd_T87 ((rd_T85 l0_2 x3_2).f0) x4_3).f0) == 23) = false := beq_eq_false_iff_ne.mpr c30
                          have c30b1 : (((rd_T87 ((rd_T85 l0_2 x3_2).f0) x4_3).f0) != 23) = true := bne_iff_ne.mpr c30
                          (first | rw [c30b0] | (simp only [i64_w, i32_w]; rw [c30b0]) | skip)
                          by_cases c36 : ((rd_T87 ((rd_T85 l0_2 x3_2).f0) x4_3).f0) = 24
                          · rw [if_pos c36] at H
                            have c36b0 : (((rd_T87 ((rd_T85 l0_2 x3_2).f0) x4_3).f0) == 24) = true := beq_iff_eq.mpr c36
                            have c36b1 : (((rd_T87 ((rd_T85 l0_2 x3_2).f0) x4_3).f0) != 24) = false := bne_eq_false_iff_eq.mpr c36
                            clear c36
                            replace H := Option.bind_eq_some_iff.mp H
                            obtain ⟨t452, A370, H⟩ := H
                            replace H : (spec_l18Well.j4 kj13 x3_2 x4_3 (decide (t452 < 0)) a0_0 l0_1 l0_2 ((rd_T87 ((rd_T85 l0_2 x3_2).f0) x4_3).f0) ((rd_T87 ((rd_T85 l0_2 x3_2).f0) x4_3).f1) ((rd_T87 ((rd_T85 l0_2 x3_2).f0) x4_3).f2) ((rd_T87 ((rd_T85 l0_2 x3_2).f0) x4_3).f3) ((rd_T87 ((rd_T85 l0_2 x3_2).f0) x4_3).f4) ((rd_T87 ((rd_T85 l0_2 x3_2).f0) x4_3).f5) ((rd_T87 ((rd_T85 l0_2 x3_2).f0) x4_3).f6) ((rd_T87 ((rd_T85 l0_2 x3_2).f0) x4_3).f7)) = some r := H
                            have A37 := Aside0.mk A370
                            clear A370
                            have H' := Aside0.mk H
                            clear H
                            have hnb38 := NB448_444.out
                            have hnc38 := NB444_448.out
                            have hcz39_0 : wc.cell? ⟨gb448, 0, none⟩ = some (.int .i64 ((rd_T87 ((rd_T85 l0_2 x3_2).f0) x4_3).f0)) := (blk_cell BK448.out 0).trans rfl
                            have hcz39_1 : wc.cell? ⟨gb448, 1, none⟩ = some (.int .i64 ((rd_T87 ((rd_T85 l0_2 x3_2).f0) x4_3).f1)) := (blk_cell BK448.out 1).trans rfl
                            have hcz39_2 : wc.cell? ⟨gb448, 2, none⟩ = some (.int .i64 ((rd_T87 ((rd_T85 l0_2 x3_2).f0) x4_3).f2)) := (blk_cell BK448.out 2).trans rfl
                            have hcz39_3 : wc.cell? ⟨gb448, 3, none⟩ = some (.int .i64 ((rd_T87 ((rd_T85 l0_2 x3_2).f0) x4_3).f3)) := (blk_cell BK448.out 3).trans rfl
                            have hcz39_4 : wc.cell? ⟨gb448, 4, none⟩ = some (.int .i64 ((rd_T87 ((rd_T85 l0_2 x3_2).f0) x4_3).f4)) := (blk_cell BK448.out 4).trans rfl
                            have hcz39_5 : wc.cell? ⟨gb448, 5, none⟩ = some (.int .i64 ((rd_T87 ((rd_T85 l0_2 x3_2).f0) x4_3).f5)) := (blk_cell BK448.out 5).trans rfl
                            have hcz39_6 : wc.cell? ⟨gb448, 6, none⟩ = some (.string ((rd_T87 ((rd_T85 l0_2 x3_2).f0) x4_3).f6)) := (blk_cell BK448.out 6).trans rfl
                            have hcz39_7 : wc.cell? ⟨gb448, 7, none⟩ = some (.slice A447_7 ((rd_T87 ((rd_T85 l0_2 x3_2).f0) x4_3).f7).length c447_7) := (blk_cell BK448.out 7).trans rfl
                            have hcz40_0 : wc.cell? ⟨gb444, 0, none⟩ = some (.int .i64 a0_0) := (blk_cell BK444.out 0).trans rfl
                            have hcz40_1 : wc.cell? ⟨gb444, 1, none⟩ = some (.slice A0_1 l0_1.length c0_1) := (blk_cell BK444.out 1).trans rfl
                            have hcz40_2 : wc.cell? ⟨gb444, 2, none⟩ = some (.slice (some ad445) l0_2.length c0_2) := (blk_cell BK444.out 2).trans rfl
                            go_wp2_with (first | (go_at_call 128; (with_reducible refine (spec_l18Jumps.calls a0_0 _ _ l0_1 _ _ l0_2 ((rd_T87 ((rd_T85 l0_2 x3_2).f0) x4_3).f0) ((rd_T87 ((rd_T85 l0_2 x3_2).f0) x4_3).f1) ((rd_T87 ((rd_T85 l0_2 x3_2).f0) x4_3).f2) ((rd_T87 ((rd_T85 l0_2 x3_2).f0) x4_3).f3) ((rd_T87 ((rd_T85 l0_2 x3_2).f0) x4_3).f4) ((rd_T87 ((rd_T85 l0_2 x3_2).f0) x4_3).f5) ((rd_T87 ((rd_T85 l0_2 x3_2).f0) x4_3).f6) _ _ ((rd_T87 ((rd_T85 l0_2 x3_2).f0) x4_3).f7) t452 _ ?side1 ?side2 ?side3 ?side4 ?side5 ?side6 A37.out).mono ?_); (case side1 => exact cz HR0_1.out); (case side2 => exact HC0_1.out); (case side3 => exact cz HR0_2.out); (case side4 => exact HC0_2.out); (case side5 => exact cz HR447_7.out); (case side6 => exact HC447_7.out); rintro e w41 ⟨rfl, hb⟩; have n0_ := Aside0.mk (blk_below (g := gb444) (o := .cells #[.int .i64 a0_0, .slice A0_1 l0_1.length c0_1, .slice (some ad445) l0_2.length c0_2] 29 (0, 0)) kz hb); have n1_ := Aside0.mk (blk_below (g := gb448) (o := .cells #[.int .i64 ((rd_T87 ((rd_T85 l0_2 x3_2).f0) x4_3).f0), .int .i64 ((rd_T87 ((rd_T85 l0_2 x3_2).f0) x4_3).f1), .int .i64 ((rd_T87 ((rd_T85 l0_2 x3_2).f0) x4_3).f2), .int .i64 ((rd_T87 ((rd_T85 l0_2 x3_2).f0) x4_3).f3), .int .i64 ((rd_T87 ((rd_T85 l0_2 x3_2).f0) x4_3).f4), .int .i64 ((rd_T87 ((rd_T85 l0_2 x3_2).f0) x4_3).f5), .string ((rd_T87 ((rd_T85 l0_2 x3_2).f0) x4_3).f6), .slice A447_7 ((rd_T87 ((rd_T85 l0_2 x3_2).f0) x4_3).f7).length c447_7] 87 (0, 0)) kz hb); have n2_ := Aside0.mk (below_step bz hb); clear BK444; clear BK448; clear HB; have BK444 := n0_; have BK448 := n1_; have HB := n2_; clear n0_ n1_ n2_; (try clear hb); (try clear hb2); (try clear hk); (try clear hi)))
                            go_meet
                            case rel => exact ⟨_, (decide (t452 < 0)), sz_, H', ⟨by have := HJ1.out; have := HK2.out; have := HK3.out; have := HJ13.out; first | omega | exact Nat.le_refl _⟩, ⟨ kz⟩, ⟨ kz⟩, ⟨ bz⟩⟩
                          · rw [if_neg c36] at H
                            have c36b0 : (((rd_T87 ((rd_T85 l0_2 x3_2).f0) x4_3).f0) == 24) = false := beq_eq_false_iff_ne.mpr c36
                            have c36b1 : (((rd_T87 ((rd_T85 l0_2 x3_2).f0) x4_3).f0) != 24) = true := bne_iff_ne.mpr c36
                            by_cases c42 : ((rd_T87 ((rd_T85 l0_2 x3_2).f0) x4_3).f0) = 25
                            · rw [if_pos c42] at H
                              have c42b0 : (((rd_T87 ((rd_T85 l0_2 x3_2).f0) x4_3).f0) == 25) = true := beq_iff_eq.mpr c42
                              have c42b1 : (((rd_T87 ((rd_T85 l0_2 x3_2).f0) x4_3).f0) != 25) = false := bne_eq_false_iff_eq.mpr c42
                              clear c42
                              replace H := Option.bind_eq_some_iff.mp H
                              obtain ⟨t453, A430, H⟩ := H
                              replace H : (spec_l18Well.j4 kj13 x3_2 x4_3 (decide (t453 < 0)) a0_0 l0_1 l0_2 ((rd_T87 ((rd_T85 l0_2 x3_2).f0) x4_3).f0) ((rd_T87 ((rd_T85 l0_2 x3_2).f0) x4_3).f1) ((rd_T87 ((rd_T85 l0_2 x3_2).f0) x4_3).f2) ((rd_T87 ((rd_T85 l0_2 x3_2).f0) x4_3).f3) ((rd_T87 ((rd_T85 l0_2 x3_2).f0) x4_3).f4) ((rd_T87 ((rd_T85 l0_2 x3_2).f0) x4_3).f5) ((rd_T87 ((rd_T85 l0_2 x3_2).f0) x4_3).f6) ((rd_T87 ((rd_T85 l0_2 x3_2).f0) x4_3).f7)) = some r := H
                              have A43 := Aside0.mk A430
                              clear A430
                              have H' := Aside0.mk H
                              clear H
                              have hnb44 := NB448_444.out
                              have hnc44 := NB444_448.out
                              have hcz45_0 : wc.cell? ⟨gb448, 0, none⟩ = some (.int .i64 ((rd_T87 ((rd_T85 l0_2 x3_2).f0) x4_3).f0)) := (blk_cell BK448.out 0).trans rfl
                              have hcz45_1 : wc.cell? ⟨gb448, 1, none⟩ = some (.int .i64 ((rd_T87 ((rd_T85 l0_2 x3_2).f0) x4_3).f1)) := (blk_cell BK448.out 1).trans rfl
                              have hcz45_2 : wc.cell? ⟨gb448, 2, none⟩ = some (.int .i64 ((rd_T87 ((rd_T85 l0_2 x3_2).f0) x4_3).f2)) := (blk_cell BK448.out 2).trans rfl
                              have hcz45_3 : wc.cell? ⟨gb448, 3, none⟩ = some (.int .i64 ((rd_T87 ((rd_T85 l0_2 x3_2).f0) x4_3).f3)) := (blk_cell BK448.out 3).trans rfl
                              have hcz45_4 : wc.cell? ⟨gb448, 4, none⟩ = some (.int .i64 ((rd_T87 ((rd_T85 l0_2 x3_2).f0) x4_3).f4)) := (blk_cell BK448.out 4).trans rfl
                              have hcz45_5 : wc.cell? ⟨gb448, 5, none⟩ = some (.int .i64 ((rd_T87 ((rd_T85 l0_2 x3_2).f0) x4_3).f5)) := (blk_cell BK448.out 5).trans rfl
                              have hcz45_6 : wc.cell? ⟨gb448, 6, none⟩ = some (.string ((rd_T87 ((rd_T85 l0_2 x3_2).f0) x4_3).f6)) := (blk_cell BK448.out 6).trans rfl
                              have hcz45_7 : wc.cell? ⟨gb448, 7, none⟩ = some (.slice A447_7 ((rd_T87 ((rd_T85 l0_2 x3_2).f0) x4_3).f7).length c447_7) := (blk_cell BK448.out 7).trans rfl
                              have hcz46_0 : wc.cell? ⟨gb444, 0, none⟩ = some (.int .i64 a0_0) := (blk_cell BK444.out 0).trans rfl
                              have hcz46_1 : wc.cell? ⟨gb444, 1, none⟩ = some (.slice A0_1 l0_1.length c0_1) := (blk_cell BK444.out 1).trans rfl
                              have hcz46_2 : wc.cell? ⟨gb444, 2, none⟩ = some (.slice (some ad445) l0_2.length c0_2) := (blk_cell BK444.out 2).trans rfl
                              go_wp2_with (first | (go_at_call 128; (with_reducible refine (spec_l18Jumps.calls a0_0 _ _ l0_1 _ _ l0_2 ((rd_T87 ((rd_T85 l0_2 x3_2).f0) x4_3).f0) ((rd_T87 ((rd_T85 l0_2 x3_2).f0) x4_3).f1) ((rd_T87 ((rd_T85 l0_2 x3_2).f0) x4_3).f2) ((rd_T87 ((rd_T85 l0_2 x3_2).f0) x4_3).f3) ((rd_T87 ((rd_T85 l0_2 x3_2).f0) x4_3).f4) ((rd_T87 ((rd_T85 l0_2 x3_2).f0) x4_3).f5) ((rd_T87 ((rd_T85 l0_2 x3_2).f0) x4_3).f6) _ _ ((rd_T87 ((rd_T85 l0_2 x3_2).f0) x4_3).f7) t453 _ ?side1 ?side2 ?side3 ?side4 ?side5 ?side6 A43.out).mono ?_); (case side1 => exact cz HR0_1.out); (case side2 => exact HC0_1.out); (case side3 => exact cz HR0_2.out); (case side4 => exact HC0_2.out); (case side5 => exact cz HR447_7.out); (case side6 => exact HC447_7.out); rintro e w47 ⟨rfl, hb⟩; have n0_ := Aside0.mk (blk_below (g := gb444) (o := .cells #[.int .i64 a0_0, .slice A0_1 l0_1.length c0_1, .slice (some ad445) l0_2.length c0_2] 29 (0, 0)) kz hb); have n1_ := Aside0.mk (blk_below (g := gb448) (o := .cells #[.int .i64 ((rd_T87 ((rd_T85 l0_2 x3_2).f0) x4_3).f0), .int .i64 ((rd_T87 ((rd_T85 l0_2 x3_2).f0) x4_3).f1), .int .i64 ((rd_T87 ((rd_T85 l0_2 x3_2).f0) x4_3).f2), .int .i64 ((rd_T87 ((rd_T85 l0_2 x3_2).f0) x4_3).f3), .int .i64 ((rd_T87 ((rd_T85 l0_2 x3_2).f0) x4_3).f4), .int .i64 ((rd_T87 ((rd_T85 l0_2 x3_2).f0) x4_3).f5), .string ((rd_T87 ((rd_T85 l0_2 x3_2).f0) x4_3).f6), .slice A447_7 ((rd_T87 ((rd_T85 l0_2 x3_2).f0) x4_3).f7).length c447_7] 87 (0, 0)) kz hb); have n2_ := Aside0.mk (below_step bz hb); clear BK444; clear BK448; clear HB; have BK444 := n0_; have BK448 := n1_; have HB := n2_; clear n0_ n1_ n2_; (try clear hb); (try clear hb2); (try clear hk); (try clear hi)))
                              go_meet
                              case rel => exact ⟨_, (decide (t453 < 0)), sz_, H', ⟨by have := HJ1.out; have := HK2.out; have := HK3.out; have := HJ13.out; first | omega | exact Nat.le_refl _⟩, ⟨ kz⟩, ⟨ kz⟩, ⟨ bz⟩⟩
                            · rw [if_neg c42] at H
                              have c42b0 : (((rd_T87 ((rd_T85 l0_2 x3_2).f0) x4_3).f0) == 25) = false := beq_eq_false_iff_ne.mpr c42
                              have c42b1 : (((rd_T87 ((rd_T85 l0_2 x3_2).f0) x4_3).f0) != 25) = true := bne_iff_ne.mpr c42
                              have H' := Aside0.mk H
                              clear H
                              have hnb48 := NB448_444.out
                              have hnc48 := NB444_448.out
                              have hcz49_0 : wc.cell? ⟨gb448, 0, none⟩ = some (.int .i64 ((rd_T87 ((rd_T85 l0_2 x3_2).f0) x4_3).f0)) := (blk_cell BK448.out 0).trans rfl
                              have hcz49_1 : wc.cell? ⟨gb448, 1, none⟩ = some (.int .i64 ((rd_T87 ((rd_T85 l0_2 x3_2).f0) x4_3).f1)) := (blk_cell BK448.out 1).trans rfl
                              have hcz49_2 : wc.cell? ⟨gb448, 2, none⟩ = some (.int .i64 ((rd_T87 ((rd_T85 l0_2 x3_2).f0) x4_3).f2)) := (blk_cell BK448.out 2).trans rfl
                              have hcz49_3 : wc.cell? ⟨gb448, 3, none⟩ = some (.int .i64 ((rd_T87 ((rd_T85 l0_2 x3_2).f0) x4_3).f3)) := (blk_cell BK448.out 3).trans rfl
                              have hcz49_4 : wc.cell? ⟨gb448, 4, none⟩ = some (.int .i64 ((rd_T87 ((rd_T85 l0_2 x3_2).f0) x4_3).f4)) := (blk_cell BK448.out 4).trans rfl
                              have hcz49_5 : wc.cell? ⟨gb448, 5, none⟩ = some (.int .i64 ((rd_T87 ((rd_T85 l0_2 x3_2).f0) x4_3).f5)) := (blk_cell BK448.out 5).trans rfl
                              have hcz49_6 : wc.cell? ⟨gb448, 6, none⟩ = some (.string ((rd_T87 ((rd_T85 l0_2 x3_2).f0) x4_3).f6)) := (blk_cell BK448.out 6).trans rfl
                              have hcz49_7 : wc.cell? ⟨gb448, 7, none⟩ = some (.slice A447_7 ((rd_T87 ((rd_T85 l0_2 x3_2).f0) x4_3).f7).length c447_7) := (blk_cell BK448.out 7).trans rfl
                              go_wp2
                              go_meet
                              case rel => exact ⟨_, (false), sz_, H', ⟨by have := HJ1.out; have := HK2.out; have := HK3.out; have := HJ13.out; first | omega | exact Nat.le_refl _⟩, ⟨ kz⟩, ⟨ kz⟩, ⟨ bz⟩⟩
                       case rest =>
                        clear HC29
                        obtain ⟨kq, x76_28, rfl, HA, HJ28, BK444, BK448, HB⟩ := hcut
                        cases kq with
                        | zero => exact absurd HA.out (by simp [spec_l18Well.j4])
                        | succ kj28 =>
                         have H := HA.out
                         clear HA
                         simp only [spec_l18Well.j4] at H
                         by_cases c50 : x76_28 = true
                         · subst c50
                           have H1 : (some false) = some r := by rw [if_pos rfl] at H; exact H
                           clear H
                           have H := H1
                           clear H1
                           obtain rfl := Option.some.inj H
                           go_wp2
                           go_ret
                           exact ⟨by first | rfl | (simp [errW_none, errW_some] <;> rfl) | (simp [*, errW_none, errW_some] <;> rfl), bz⟩
                         · replace c50 := Bool.eq_false_iff.mpr c50
                           subst c50
                           have H1 : ((spec_Reads.f kj28 ((rd_T87 ((rd_T85 l0_2 x3_2).f0) x4_3).f0) ((rd_T87 ((rd_T85 l0_2 x3_2).f0) x4_3).f1) ((rd_T87 ((rd_T85 l0_2 x3_2).f0) x4_3).f2) ((rd_T87 ((rd_T85 l0_2 x3_2).f0) x4_3).f3) ((rd_T87 ((rd_T85 l0_2 x3_2).f0) x4_3).f4) ((rd_T87 ((rd_T85 l0_2 x3_2).f0) x4_3).f5) ((rd_T87 ((rd_T85 l0_2 x3_2).f0) x4_3).f6) ((rd_T87 ((rd_T85 l0_2 x3_2).f0) x4_3).f7)).bind fun t454 => ((some (([((rd_T87 ((rd_T85 l0_2 x3_2).f0) x4_3).f1)] : List Int) : List Int)).bind fun y457 => (if t454.length + y457.length < 17592186044416 then (spec_l18Well.l2 kj28 x3_2 x4_3 (t454 ++ y457) 0 a0_0 l0_1 l0_2) else (none)))) = some r := by rw [if_neg (show ¬ (false = true) by decide)] at H; exact H
                           clear H
                           have H := H1
                           clear H1
                           replace H := Option.bind_eq_some_iff.mp H
                           obtain ⟨t454, A510, H⟩ := H
                           replace H : ((some (([((rd_T87 ((rd_T85 l0_2 x3_2).f0) x4_3).f1)] : List Int) : List Int)).bind fun y457 => (if t454.length + y457.length < 17592186044416 then (spec_l18Well.l2 kj28 x3_2 x4_3 (t454 ++ y457) 0 a0_0 l0_1 l0_2) else (none))) = some r := H
                           have A51 := Aside0.mk A510
                           clear A510
                           obtain ⟨y457, hy457⟩ : ∃ y_ : List Int, y_ = (([((rd_T87 ((rd_T85 l0_2 x3_2).f0) x4_3).f1)] : List Int)) := ⟨_, rfl⟩
                           replace H : (if t454.length + y457.length < 17592186044416 then (spec_l18Well.l2 kj28 x3_2 x4_3 (t454 ++ y457) 0 a0_0 l0_1 l0_2) else (none)) = some r := by first | (rw [hy457]; with_reducible exact H) | (have H2_ := (Option.bind_some _ _).symm.trans H; rw [hy457]; with_reducible exact H2_) | (have H2_ := (Option.bind_some _ _).symm.trans H; with_reducible exact H2_) | with_reducible exact H | (rw [hy457]; exact H) | exact H
                           have Ny457 := Aside0.mk hy457
                           clear hy457
                           by_cases c52 : t454.length + y457.length < 17592186044416
                           · rw [if_pos c52] at H
                             have LMc52 := Aside0.mk c52
                             clear c52
                             obtain ⟨y460, hy460⟩ : ∃ y_ : List Int, y_ = (t454 ++ y457) := ⟨_, rfl⟩
                             replace H : (spec_l18Well.l2 kj28 x3_2 x4_3 y460 0 a0_0 l0_1 l0_2) = some r := by first | (rw [hy460]; with_reducible exact H) | (have H2_ := (Option.bind_some _ _).symm.trans H; rw [hy460]; with_reducible exact H2_) | (have H2_ := (Option.bind_some _ _).symm.trans H; with_reducible exact H2_) | with_reducible exact H | (rw [hy460]; exact H) | exact H
                             have Ny460 := Aside0.mk hy460
                             clear hy460
                             have H' := Aside0.mk H
                             clear H
                             try go_wp2
                             have n0_ := Aside0.mk (blk_drew BK444.out)
                             have n1_ := Aside0.mk (blk_drew BK448.out)
                             have n2_ := Aside0.mk (below_drew1 HB.out)
                             clear BK444
                             clear BK448
                             clear HB
                             have BK444 := n0_
                             have BK448 := n1_
                             have HB := n2_
                             clear n0_ n1_ n2_
                             refine start_ (n := 7) (S := fun w' => w'.cell? ⟨gb448, 0, none⟩ = some (.int .i64 ((rd_T87 ((rd_T85 l0_2 x3_2).f0) x4_3).f0)) ∧ w'.cell? ⟨gb448, 1, none⟩ = some (.int .i64 ((rd_T87 ((rd_T85 l0_2 x3_2).f0) x4_3).f1)) ∧ w'.cell? ⟨gb448, 2, none⟩ = some (.int .i64 ((rd_T87 ((rd_T85 l0_2 x3_2).f0) x4_3).f2)) ∧ w'.cell? ⟨gb448, 3, none⟩ = some (.int .i64 ((rd_T87 ((rd_T85 l0_2 x3_2).f0) x4_3).f3)) ∧ w'.cell? ⟨gb448, 4, none⟩ = some (.int .i64 ((rd_T87 ((rd_T85 l0_2 x3_2).f0) x4_3).f4)) ∧ w'.cell? ⟨gb448, 5, none⟩ = some (.int .i64 ((rd_T87 ((rd_T85 l0_2 x3_2).f0) x4_3).f5)) ∧ w'.cell? ⟨gb448, 6, none⟩ = some (.string ((rd_T87 ((rd_T85 l0_2 x3_2).f0) x4_3).f6)) ∧ w'.cell? ⟨gb448, 7, none⟩ = some (.slice A447_7 ((rd_T87 ((rd_T85 l0_2 x3_2).f0) x4_3).f7).length c447_7)) (ds := []) #[false, false, false, false, false, false, false] (by kernel_rfl) rfl rfl ⟨(blk_cell BK448.out 0).trans rfl, (blk_cell BK448.out 1).trans rfl, (blk_cell BK448.out 2).trans rfl, (blk_cell BK448.out 3).trans rfl, (blk_cell BK448.out 4).trans rfl, (blk_cell BK448.out 5).trans rfl, (blk_cell BK448.out 6).trans rfl, (blk_cell BK448.out 7).trans rfl⟩ (fun hHeld => ?_)
                             generalize wc.drew = w53 at BK444 BK448 HB hHeld ⊢
                             refine pure_ (i := 2) (N := some 79) (v := ?_) (a' := ?_) #[false, false, true, false, false, false, false] rfl rfl (by kernel_rfl) (fun _ _ _ h => h) (Or.inl ⟨by rfl, ?_⟩) ?_ ?_
                             rotate_left
                             · intro w'
                               go_simp
                               with_reducible rfl
                             rotate_left
                             · simp only [Act.put, sx1, sx2, sx3, i64_w, i32_w]
                               rfl
                             refine take_ (i := 0) (N := some 77) (v := ?_) (a' := ?_) #[true, false, true, false, false, false, false] rfl rfl (by kernel_rfl) (fun _ _ _ h => h) (Or.inl ⟨by rfl, ?_⟩) hHeld ?_ ?_
                             rotate_left
                             · rintro w' ⟨s0, s1, s2, s3, s4, s5, s6, s7⟩
                               go_simp
                               with_reducible rfl
                             rotate_left
                             · simp only [Act.put, sx1, sx2, sx3, i64_w, i32_w]
                               rfl
                             refine take_ (i := 3) (N := some 80) (v := ?_) (a' := ?_) #[true, false, true, true, false, false, false] rfl rfl (by kernel_rfl) (fun _ _ _ h => h) (Or.inl ⟨by rfl, ?_⟩) hHeld ?_ ?_
                             rotate_left
                             · rintro w' ⟨s0, s1, s2, s3, s4, s5, s6, s7⟩
                               go_simp
                               with_reducible rfl
                             rotate_left
                             · simp only [Act.put, sx1, sx2, sx3, i64_w, i32_w]
                               rfl
                             refine join_ (σ := Value × Value) 2 #[true, true, true, true, true, false, false] (fun s_ => [(78, s_.1), (81, s_.2)]) (fun s_ w' => (w'.cell? ⟨gb448, 0, none⟩ = some (.int .i64 ((rd_T87 ((rd_T85 l0_2 x3_2).f0) x4_3).f0)) ∧ w'.cell? ⟨gb448, 1, none⟩ = some (.int .i64 ((rd_T87 ((rd_T85 l0_2 x3_2).f0) x4_3).f1)) ∧ w'.cell? ⟨gb448, 2, none⟩ = some (.int .i64 ((rd_T87 ((rd_T85 l0_2 x3_2).f0) x4_3).f2)) ∧ w'.cell? ⟨gb448, 3, none⟩ = some (.int .i64 ((rd_T87 ((rd_T85 l0_2 x3_2).f0) x4_3).f3)) ∧ w'.cell? ⟨gb448, 4, none⟩ = some (.int .i64 ((rd_T87 ((rd_T85 l0_2 x3_2).f0) x4_3).f4)) ∧ w'.cell? ⟨gb448, 5, none⟩ = some (.int .i64 ((rd_T87 ((rd_T85 l0_2 x3_2).f0) x4_3).f5)) ∧ w'.cell? ⟨gb448, 6, none⟩ = some (.string ((rd_T87 ((rd_T85 l0_2 x3_2).f0) x4_3).f6)) ∧ w'.cell? ⟨gb448, 7, none⟩ = some (.slice A447_7 ((rd_T87 ((rd_T85 l0_2 x3_2).f0) x4_3).f7).length c447_7)) ∧ (Kd.R (Kd.int .i64) 2 w' w.heap.size (fun k_ => some k_ ≠ (s_.2 : Value).ownBlock) s_.1 t454) ∧ (Kd.R (Kd.int .i64) 2 w' w.heap.size (fun k_ => some k_ ≠ (s_.1 : Value).ownBlock) s_.2 y457) ∧ (w'.heap[gb444]? = some (.cells #[.int .i64 a0_0, .slice A0_1 l0_1.length c0_1, .slice (some ad445) l0_2.length c0_2] 29 (0, 0))) ∧ (w'.heap[gb448]? = some (.cells #[.int .i64 ((rd_T87 ((rd_T85 l0_2 x3_2).f0) x4_3).f0), .int .i64 ((rd_T87 ((rd_T85 l0_2 x3_2).f0) x4_3).f1), .int .i64 ((rd_T87 ((rd_T85 l0_2 x3_2).f0) x4_3).f2), .int .i64 ((rd_T87 ((rd_T85 l0_2 x3_2).f0) x4_3).f3), .int .i64 ((rd_T87 ((rd_T85 l0_2 x3_2).f0) x4_3).f4), .int .i64 ((rd_T87 ((rd_T85 l0_2 x3_2).f0) x4_3).f5), .string ((rd_T87 ((rd_T85 l0_2 x3_2).f0) x4_3).f6), .slice A447_7 ((rd_T87 ((rd_T85 l0_2 x3_2).f0) x4_3).f7).length c447_7] 87 (0, 0))) ∧ (Below w.heap.size w w')) ?_ ?_
                             rotate_left
                             · intro hCont
                               refine two_ (i := 1) (j := 4) (Ni := some 78) (Nj := some 81) #[true, true, true, true, false, false, false] #[true, false, true, true, true, false, false] rfl rfl rfl rfl (by kernel_rfl) (by decide) (by decide) (fun K hK => ?_) (fun K hK => ?_)
                               · skip
                                 refine goes_ Try.func116 (by kernel_rfl) rfl #[.agg #[.int .i64 ((rd_T87 ((rd_T85 l0_2 x3_2).f0) x4_3).f0), .int .i64 ((rd_T87 ((rd_T85 l0_2 x3_2).f0) x4_3).f1), .int .i64 ((rd_T87 ((rd_T85 l0_2 x3_2).f0) x4_3).f2), .int .i64 ((rd_T87 ((rd_T85 l0_2 x3_2).f0) x4_3).f3), .int .i64 ((rd_T87 ((rd_T85 l0_2 x3_2).f0) x4_3).f4), .int .i64 ((rd_T87 ((rd_T85 l0_2 x3_2).f0) x4_3).f5), .string ((rd_T87 ((rd_T85 l0_2 x3_2).f0) x4_3).f6), .slice A447_7 ((rd_T87 ((rd_T85 l0_2 x3_2).f0) x4_3).f7).length c447_7]] (by rfl) rfl rfl lz ?_
                                 with_reducible refine (spec_Reads.calls kj28 ((rd_T87 ((rd_T85 l0_2 x3_2).f0) x4_3).f0) ((rd_T87 ((rd_T85 l0_2 x3_2).f0) x4_3).f1) ((rd_T87 ((rd_T85 l0_2 x3_2).f0) x4_3).f2) ((rd_T87 ((rd_T85 l0_2 x3_2).f0) x4_3).f3) ((rd_T87 ((rd_T85 l0_2 x3_2).f0) x4_3).f4) ((rd_T87 ((rd_T85 l0_2 x3_2).f0) x4_3).f5) ((rd_T87 ((rd_T85 l0_2 x3_2).f0) x4_3).f6) _ _ ((rd_T87 ((rd_T85 l0_2 x3_2).f0) x4_3).f7) t454 _ ?side1 ?side2 A51.out).mono ?_
                                 (case side1 => exact cz HR447_7.out)
                                 (case side2 => exact HC447_7.out)
                                 rintro e w54 ⟨v455, rfl, ho0, hb⟩
                                 refine ⟨_, rfl, ?_⟩
                                 have n0_ := Aside0.mk (Kd.R_lower ho0 (below_size bz))
                                 have n1_ := Aside0.mk (blk_below (g := gb444) (o := .cells #[.int .i64 a0_0, .slice A0_1 l0_1.length c0_1, .slice (some ad445) l0_2.length c0_2] 29 (0, 0)) kz hb)
                                 have n2_ := Aside0.mk (blk_below (g := gb448) (o := .cells #[.int .i64 ((rd_T87 ((rd_T85 l0_2 x3_2).f0) x4_3).f0), .int .i64 ((rd_T87 ((rd_T85 l0_2 x3_2).f0) x4_3).f1), .int .i64 ((rd_T87 ((rd_T85 l0_2 x3_2).f0) x4_3).f2), .int .i64 ((rd_T87 ((rd_T85 l0_2 x3_2).f0) x4_3).f3), .int .i64 ((rd_T87 ((rd_T85 l0_2 x3_2).f0) x4_3).f4), .int .i64 ((rd_T87 ((rd_T85 l0_2 x3_2).f0) x4_3).f5), .string ((rd_T87 ((rd_T85 l0_2 x3_2).f0) x4_3).f6), .slice A447_7 ((rd_T87 ((rd_T85 l0_2 x3_2).f0) x4_3).f7).length c447_7] 87 (0, 0)) kz hb)
                                 have n3_ := Aside0.mk (below_step bz hb)
                                 clear BK444
                                 clear BK448
                                 clear HB
                                 have HO456 := n0_
                                 have BK444 := n1_
                                 have BK448 := n2_
                                 have HB := n3_
                                 clear n0_ n1_ n2_ n3_
                                 (try clear hb)
                                 (try clear hb2)
                                 (try clear hk)
                                 (try clear hi)
                                 (try clear ho0)
                                 refine hK.out _ _ ⟨(blk_cell BK448.out 0).trans rfl, (blk_cell BK448.out 1).trans rfl, (blk_cell BK448.out 2).trans rfl, (blk_cell BK448.out 3).trans rfl, (blk_cell BK448.out 4).trans rfl, (blk_cell BK448.out 5).trans rfl, (blk_cell BK448.out 6).trans rfl, (blk_cell BK448.out 7).trans rfl⟩ (fun hHeld => ?_)
                                 clear hK K
                                 refine norm_ (a' := ?_) ?_ ?_
                                 rotate_left
                                 · show Act.put _ (some 78) _ = _
                                   simp only [Act.put, sx1, sx2, sx3, i64_w, i32_w]
                                   rfl
                                 refine one_ (i := 4) (N := some 81) #[true, true, true, true, true, false, false] rfl rfl (by kernel_rfl) (by decide) (fun K hK => ?_)
                                 refine Kd.R_lit_step (Kd.int .i64) _ 2 ?hg (N := 81) ?hd (xs := ([((rd_T87 ((rd_T85 l0_2 x3_2).f0) x4_3).f1)] : List Int)) (inner := [.int .i64 ((rd_T87 ((rd_T85 l0_2 x3_2).f0) x4_3).f1)]) (ok := fun _ => True) (okp := fun _ => True) ?hr ?hp (fun _ hk => hk) trivial (Below.refl _ _) (Nat.le_refl _) (by simp) ?_; (case hd => rfl); (case hg => rfl); (case hr => first | (go_simp; done) | (go_simp; rfl)); (case hp => exact (Reps.one (show Kd.M (Kd.int .i64) _ _ _ ((rd_T87 ((rd_T85 l0_2 x3_2).f0) x4_3).f1) [.int .i64 ((rd_T87 ((rd_T85 l0_2 x3_2).f0) x4_3).f1)] from rfl) (Reps.none _ _)))
                                 intro v458 w55 ho56 hb hg_ hnew_
                                 clear hg_ hnew_
                                 (first | rw [← Ny457.out] at ho56 | (simp only [Int.reduceToNat] at ho56; rw [← Ny457.out] at ho56))
                                 have n0_ := Aside0.mk (Kd.R_elder' (rz HO456.out) (Kd.R_base ho56) hb)
                                 have n1_ := Aside0.mk (Kd.R_lower (Kd.R_new' ho56 (Kd.R_lt (rz HO456.out))) (below_size bz))
                                 have n2_ := Aside0.mk (blk_below (g := gb444) (o := .cells #[.int .i64 a0_0, .slice A0_1 l0_1.length c0_1, .slice (some ad445) l0_2.length c0_2] 29 (0, 0)) kz hb)
                                 have n3_ := Aside0.mk (blk_below (g := gb448) (o := .cells #[.int .i64 ((rd_T87 ((rd_T85 l0_2 x3_2).f0) x4_3).f0), .int .i64 ((rd_T87 ((rd_T85 l0_2 x3_2).f0) x4_3).f1), .int .i64 ((rd_T87 ((rd_T85 l0_2 x3_2).f0) x4_3).f2), .int .i64 ((rd_T87 ((rd_T85 l0_2 x3_2).f0) x4_3).f3), .int .i64 ((rd_T87 ((rd_T85 l0_2 x3_2).f0) x4_3).f4), .int .i64 ((rd_T87 ((rd_T85 l0_2 x3_2).f0) x4_3).f5), .string ((rd_T87 ((rd_T85 l0_2 x3_2).f0) x4_3).f6), .slice A447_7 ((rd_T87 ((rd_T85 l0_2 x3_2).f0) x4_3).f7).length c447_7] 87 (0, 0)) kz hb)
                                 have n4_ := Aside0.mk (below_step bz hb)
                                 clear HO456
                                 clear BK444
                                 clear BK448
                                 clear HB
                                 have HO456 := n0_
                                 have HO459 := n1_
                                 have BK444 := n2_
                                 have BK448 := n3_
                                 have HB := n4_
                                 clear n0_ n1_ n2_ n3_ n4_
                                 clear hb ho56
                                 refine hK.out _ _ ⟨(blk_cell BK448.out 0).trans rfl, (blk_cell BK448.out 1).trans rfl, (blk_cell BK448.out 2).trans rfl, (blk_cell BK448.out 3).trans rfl, (blk_cell BK448.out 4).trans rfl, (blk_cell BK448.out 5).trans rfl, (blk_cell BK448.out 6).trans rfl, (blk_cell BK448.out 7).trans rfl⟩ (fun hHeld => ?_)
                                 clear hK K
                                 refine norm_ (a' := ?_) ?_ ?_
                                 rotate_left
                                 · show Act.put _ (some 81) _ = _
                                   simp only [Act.put, sx1, sx2, sx3, i64_w, i32_w]
                                   rfl
                                 exact norm_ (by simp only [putAll, Act.put, sx1, sx2, sx3]) (hCont (v455, v458) _ ⟨hHeld, (by (with_reducible repeat (first | apply Kd.R_alloc | apply Kd.R_drewN | apply Kd.R_drew)); exact Kd.R_mono HO456.out (fun _ hk => hk.2)), (by (with_reducible repeat (first | apply Kd.R_alloc | apply Kd.R_drewN | apply Kd.R_drew)); exact Kd.R_mono HO459.out (fun _ hk => hk.2)), kz, kz, bz⟩)
                               · skip
                                 refine Kd.R_lit_step (Kd.int .i64) _ 2 ?hg (N := 81) ?hd (xs := ([((rd_T87 ((rd_T85 l0_2 x3_2).f0) x4_3).f1)] : List Int)) (inner := [.int .i64 ((rd_T87 ((rd_T85 l0_2 x3_2).f0) x4_3).f1)]) (ok := fun _ => True) (okp := fun _ => True) ?hr ?hp (fun _ hk => hk) trivial (Below.refl _ _) (Nat.le_refl _) (by simp) ?_; (case hd => rfl); (case hg => rfl); (case hr => first | (go_simp; done) | (go_simp; rfl)); (case hp => exact (Reps.one (show Kd.M (Kd.int .i64) _ _ _ ((rd_T87 ((rd_T85 l0_2 x3_2).f0) x4_3).f1) [.int .i64 ((rd_T87 ((rd_T85 l0_2 x3_2).f0) x4_3).f1)] from rfl) (Reps.none _ _)))
                                 intro v458 w54 ho55 hb hg_ hnew_
                                 clear hg_ hnew_
                                 (first | rw [← Ny457.out] at ho55 | (simp only [Int.reduceToNat] at ho55; rw [← Ny457.out] at ho55))
                                 have n0_ := Aside0.mk (Kd.R_lower ho55 (below_size bz))
                                 have n1_ := Aside0.mk (blk_below (g := gb444) (o := .cells #[.int .i64 a0_0, .slice A0_1 l0_1.length c0_1, .slice (some ad445) l0_2.length c0_2] 29 (0, 0)) kz hb)
                                 have n2_ := Aside0.mk (blk_below (g := gb448) (o := .cells #[.int .i64 ((rd_T87 ((rd_T85 l0_2 x3_2).f0) x4_3).f0), .int .i64 ((rd_T87 ((rd_T85 l0_2 x3_2).f0) x4_3).f1), .int .i64 ((rd_T87 ((rd_T85 l0_2 x3_2).f0) x4_3).f2), .int .i64 ((rd_T87 ((rd_T85 l0_2 x3_2).f0) x4_3).f3), .int .i64 ((rd_T87 ((rd_T85 l0_2 x3_2).f0) x4_3).f4), .int .i64 ((rd_T87 ((rd_T85 l0_2 x3_2).f0) x4_3).f5), .string ((rd_T87 ((rd_T85 l0_2 x3_2).f0) x4_3).f6), .slice A447_7 ((rd_T87 ((rd_T85 l0_2 x3_2).f0) x4_3).f7).length c447_7] 87 (0, 0)) kz hb)
                                 have n3_ := Aside0.mk (below_step bz hb)
                                 clear BK444
                                 clear BK448
                                 clear HB
                                 have HO459 := n0_
                                 have BK444 := n1_
                                 have BK448 := n2_
                                 have HB := n3_
                                 clear n0_ n1_ n2_ n3_
                                 clear hb ho55
                                 refine hK.out _ _ ⟨(blk_cell BK448.out 0).trans rfl, (blk_cell BK448.out 1).trans rfl, (blk_cell BK448.out 2).trans rfl, (blk_cell BK448.out 3).trans rfl, (blk_cell BK448.out 4).trans rfl, (blk_cell BK448.out 5).trans rfl, (blk_cell BK448.out 6).trans rfl, (blk_cell BK448.out 7).trans rfl⟩ (fun hHeld => ?_)
                                 clear hK K
                                 refine norm_ (a' := ?_) ?_ ?_
                                 rotate_left
                                 · show Act.put _ (some 81) _ = _
                                   simp only [Act.put, sx1, sx2, sx3, i64_w, i32_w]
                                   rfl
                                 refine one_ (i := 1) (N := some 78) #[true, true, true, true, true, false, false] rfl rfl (by kernel_rfl) (by decide) (fun K hK => ?_)
                                 refine goes_ Try.func116 (by kernel_rfl) rfl #[.agg #[.int .i64 ((rd_T87 ((rd_T85 l0_2 x3_2).f0) x4_3).f0), .int .i64 ((rd_T87 ((rd_T85 l0_2 x3_2).f0) x4_3).f1), .int .i64 ((rd_T87 ((rd_T85 l0_2 x3_2).f0) x4_3).f2), .int .i64 ((rd_T87 ((rd_T85 l0_2 x3_2).f0) x4_3).f3), .int .i64 ((rd_T87 ((rd_T85 l0_2 x3_2).f0) x4_3).f4), .int .i64 ((rd_T87 ((rd_T85 l0_2 x3_2).f0) x4_3).f5), .string ((rd_T87 ((rd_T85 l0_2 x3_2).f0) x4_3).f6), .slice A447_7 ((rd_T87 ((rd_T85 l0_2 x3_2).f0) x4_3).f7).length c447_7]] (by rfl) rfl rfl lz ?_
                                 with_reducible refine (spec_Reads.calls kj28 ((rd_T87 ((rd_T85 l0_2 x3_2).f0) x4_3).f0) ((rd_T87 ((rd_T85 l0_2 x3_2).f0) x4_3).f1) ((rd_T87 ((rd_T85 l0_2 x3_2).f0) x4_3).f2) ((rd_T87 ((rd_T85 l0_2 x3_2).f0) x4_3).f3) ((rd_T87 ((rd_T85 l0_2 x3_2).f0) x4_3).f4) ((rd_T87 ((rd_T85 l0_2 x3_2).f0) x4_3).f5) ((rd_T87 ((rd_T85 l0_2 x3_2).f0) x4_3).f6) _ _ ((rd_T87 ((rd_T85 l0_2 x3_2).f0) x4_3).f7) t454 _ ?side1 ?side2 A51.out).mono ?_
                                 (case side1 => exact cz HR447_7.out)
                                 (case side2 => exact HC447_7.out)
                                 rintro e w56 ⟨v455, rfl, ho0, hb⟩
                                 refine ⟨_, rfl, ?_⟩
                                 have n0_ := Aside0.mk (Kd.R_elder' (rz HO459.out) (Kd.R_base ho0) hb)
                                 have n1_ := Aside0.mk (Kd.R_lower (Kd.R_new' ho0 (Kd.R_lt (rz HO459.out))) (below_size bz))
                                 have n2_ := Aside0.mk (blk_below (g := gb444) (o := .cells #[.int .i64 a0_0, .slice A0_1 l0_1.length c0_1, .slice (some ad445) l0_2.length c0_2] 29 (0, 0)) kz hb)
                                 have n3_ := Aside0.mk (blk_below (g := gb448) (o := .cells #[.int .i64 ((rd_T87 ((rd_T85 l0_2 x3_2).f0) x4_3).f0), .int .i64 ((rd_T87 ((rd_T85 l0_2 x3_2).f0) x4_3).f1), .int .i64 ((rd_T87 ((rd_T85 l0_2 x3_2).f0) x4_3).f2), .int .i64 ((rd_T87 ((rd_T85 l0_2 x3_2).f0) x4_3).f3), .int .i64 ((rd_T87 ((rd_T85 l0_2 x3_2).f0) x4_3).f4), .int .i64 ((rd_T87 ((rd_T85 l0_2 x3_2).f0) x4_3).f5), .string ((rd_T87 ((rd_T85 l0_2 x3_2).f0) x4_3).f6), .slice A447_7 ((rd_T87 ((rd_T85 l0_2 x3_2).f0) x4_3).f7).length c447_7] 87 (0, 0)) kz hb)
                                 have n4_ := Aside0.mk (below_step bz hb)
                                 clear HO459
                                 clear BK444
                                 clear BK448
                                 clear HB
                                 have HO459 := n0_
                                 have HO456 := n1_
                                 have BK444 := n2_
                                 have BK448 := n3_
                                 have HB := n4_
                                 clear n0_ n1_ n2_ n3_ n4_
                                 (try clear hb)
                                 (try clear hb2)
                                 (try clear hk)
                                 (try clear hi)
                                 (try clear ho0)
                                 refine hK.out _ _ ⟨(blk_cell BK448.out 0).trans rfl, (blk_cell BK448.out 1).trans rfl, (blk_cell BK448.out 2).trans rfl, (blk_cell BK448.out 3).trans rfl, (blk_cell BK448.out 4).trans rfl, (blk_cell BK448.out 5).trans rfl, (blk_cell BK448.out 6).trans rfl, (blk_cell BK448.out 7).trans rfl⟩ (fun hHeld => ?_)
                                 clear hK K
                                 refine norm_ (a' := ?_) ?_ ?_
                                 rotate_left
                                 · show Act.put _ (some 78) _ = _
                                   simp only [Act.put, sx1, sx2, sx3, i64_w, i32_w]
                                   rfl
                                 exact norm_ (by simp only [putAll, Act.put, sx1, sx2, sx3]) (hCont (v455, v458) _ ⟨hHeld, (by (with_reducible repeat (first | apply Kd.R_alloc | apply Kd.R_drewN | apply Kd.R_drew)); exact Kd.R_mono HO456.out (fun _ hk => hk.2)), (by (with_reducible repeat (first | apply Kd.R_alloc | apply Kd.R_drewN | apply Kd.R_drew)); exact Kd.R_mono HO459.out (fun _ hk => hk.2)), kz, kz, bz⟩)
                             rintro ⟨v455, v458⟩ w57 ⟨hS_, h0_, h1_, h2_, h3_, h4_⟩
                             have n0_ : Aside0 (Kd.R (Kd.int .i64) 2 w57 w.heap.size (fun k_ => some k_ ≠ (v458 : Value).ownBlock) v455 t454) := ⟨h0_⟩
                             have n1_ : Aside0 (Kd.R (Kd.int .i64) 2 w57 w.heap.size (fun k_ => some k_ ≠ (v455 : Value).ownBlock) v458 y457) := ⟨h1_⟩
                             have n2_ : Aside0 (w57.heap[gb444]? = some (.cells #[.int .i64 a0_0, .slice A0_1 l0_1.length c0_1, .slice (some ad445) l0_2.length c0_2] 29 (0, 0))) := ⟨h2_⟩
                             have n3_ : Aside0 (w57.heap[gb448]? = some (.cells #[.int .i64 ((rd_T87 ((rd_T85 l0_2 x3_2).f0) x4_3).f0), .int .i64 ((rd_T87 ((rd_T85 l0_2 x3_2).f0) x4_3).f1), .int .i64 ((rd_T87 ((rd_T85 l0_2 x3_2).f0) x4_3).f2), .int .i64 ((rd_T87 ((rd_T85 l0_2 x3_2).f0) x4_3).f3), .int .i64 ((rd_T87 ((rd_T85 l0_2 x3_2).f0) x4_3).f4), .int .i64 ((rd_T87 ((rd_T85 l0_2 x3_2).f0) x4_3).f5), .string ((rd_T87 ((rd_T85 l0_2 x3_2).f0) x4_3).f6), .slice A447_7 ((rd_T87 ((rd_T85 l0_2 x3_2).f0) x4_3).f7).length c447_7] 87 (0, 0))) := ⟨h3_⟩
                             have n4_ : Aside0 (Below w.heap.size w w57) := ⟨h4_⟩
                             clear BK444
                             clear BK448
                             clear HB
                             clear h0_ h1_ h2_ h3_ h4_
                             have HO456 := n0_
                             have HO459 := n1_
                             have BK444 := n2_
                             have BK448 := n3_
                             have HB := n4_
                             clear n0_ n1_ n2_ n3_ n4_
                             have hHeld : w57.cell? ⟨gb448, 0, none⟩ = some (.int .i64 ((rd_T87 ((rd_T85 l0_2 x3_2).f0) x4_3).f0)) ∧ w57.cell? ⟨gb448, 1, none⟩ = some (.int .i64 ((rd_T87 ((rd_T85 l0_2 x3_2).f0) x4_3).f1)) ∧ w57.cell? ⟨gb448, 2, none⟩ = some (.int .i64 ((rd_T87 ((rd_T85 l0_2 x3_2).f0) x4_3).f2)) ∧ w57.cell? ⟨gb448, 3, none⟩ = some (.int .i64 ((rd_T87 ((rd_T85 l0_2 x3_2).f0) x4_3).f3)) ∧ w57.cell? ⟨gb448, 4, none⟩ = some (.int .i64 ((rd_T87 ((rd_T85 l0_2 x3_2).f0) x4_3).f4)) ∧ w57.cell? ⟨gb448, 5, none⟩ = some (.int .i64 ((rd_T87 ((rd_T85 l0_2 x3_2).f0) x4_3).f5)) ∧ w57.cell? ⟨gb448, 6, none⟩ = some (.string ((rd_T87 ((rd_T85 l0_2 x3_2).f0) x4_3).f6)) ∧ w57.cell? ⟨gb448, 7, none⟩ = some (.slice A447_7 ((rd_T87 ((rd_T85 l0_2 x3_2).f0) x4_3).f7).length c447_7) := hS_
                             obtain ⟨Ao59, co59, eo59⟩ := Kd.R_slice HO459.out
                             (first | subst eo59 | (injection eo59 with f1_ f2_ f3_; have f4_ := f1_.symm; have f5_ := f3_.symm; clear f1_ f2_ f3_; subst f4_; subst f5_))
                             refine norm_ (a' := ?_) ?_ ?_
                             rotate_left
                             · simp only [putAll, Act.put, sx1, sx2, sx3]
                               rfl
                             refine one_ (i := 5) (N := some 82) #[true, true, true, true, true, true, false] rfl rfl (by kernel_rfl) (by decide) (fun K hK => ?_)
                             refine Kd.R_append_rows_step (Kd.int .i64) (w0 := w) w.heap.size (by rfl) (.tmp 78) (.tmp 81) 22 2 (.int .i64 0) 8 rfl Try.underlying22 info2 rfl (by decide) (by omega) v455 t454 y457 _ _ _ (fun k_ => some k_ ≠ (.slice Ao59 y457.length co59 : Value).ownBlock) (fun _ => False) rfl rfl ?aO ?aR (fun _ _ h => h) (fun _ h => h.elim) ?aF ?aB ?aS ?aL ?_
                             (case aR => repeat (first | exact (Kd.R_reads' HO459.out).2.2 | (with_reducible refine Kd.C_alloc ?_ _) | (with_reducible refine Kd.C_drewN ?_ _) | (with_reducible refine Kd.C_drew ?_)))
                             (case aB => exact bz)
                             (case aF => exact (fun k_ hk => Kd.fresh' (Kd.R_lt (rz HO459.out)) k_ hk))
                             (case aO => exact (rz HO456.out))
                             (case aS => exact (below_size bz))
                             (case aL => have := LMc52.out; omega)
                             intro v461 w58 ho hb hg hat
                             rw [← Ny460.out] at ho
                             have n0_ := Aside0.mk (blk_grown (g := gb444) (o := .cells #[.int .i64 a0_0, .slice A0_1 l0_1.length c0_1, .slice (some ad445) l0_2.length c0_2] 29 (0, 0)) kz hg (Kd.R_ne HO456.out BK444.out (by decide)))
                             have n1_ := Aside0.mk (blk_grown (g := gb448) (o := .cells #[.int .i64 ((rd_T87 ((rd_T85 l0_2 x3_2).f0) x4_3).f0), .int .i64 ((rd_T87 ((rd_T85 l0_2 x3_2).f0) x4_3).f1), .int .i64 ((rd_T87 ((rd_T85 l0_2 x3_2).f0) x4_3).f2), .int .i64 ((rd_T87 ((rd_T85 l0_2 x3_2).f0) x4_3).f3), .int .i64 ((rd_T87 ((rd_T85 l0_2 x3_2).f0) x4_3).f4), .int .i64 ((rd_T87 ((rd_T85 l0_2 x3_2).f0) x4_3).f5), .string ((rd_T87 ((rd_T85 l0_2 x3_2).f0) x4_3).f6), .slice A447_7 ((rd_T87 ((rd_T85 l0_2 x3_2).f0) x4_3).f7).length c447_7] 87 (0, 0)) kz hg (Kd.R_ne HO456.out BK448.out (by decide)))
                             have n2_ := Aside0.mk (Kd.R_after (ok := (fun _ => True)) (by (with_reducible repeat (first | apply Kd.R_alloc | apply Kd.R_drewN | apply Kd.R_drew)); exact Kd.R_mono HO459.out (fun _ hk => ⟨trivial, hk⟩)) hg hat)
                             have n3_ := Aside0.mk (hb)
                             have n4_ := Aside0.mk (ho)
                             clear BK444
                             clear BK448
                             clear HO459
                             clear HB
                             clear HO456
                             have BK444 := n0_
                             have BK448 := n1_
                             have HO459 := n2_
                             have HB := n3_
                             have HO462 := n4_
                             clear n0_ n1_ n2_ n3_ n4_
                             clear ho hb hg hat
                             refine hK.out _ _ ⟨(blk_cell BK448.out 0).trans rfl, (blk_cell BK448.out 1).trans rfl, (blk_cell BK448.out 2).trans rfl, (blk_cell BK448.out 3).trans rfl, (blk_cell BK448.out 4).trans rfl, (blk_cell BK448.out 5).trans rfl, (blk_cell BK448.out 6).trans rfl, (blk_cell BK448.out 7).trans rfl⟩ (fun hHeld => ?_)
                             clear hK K
                             refine norm_ (a' := ?_) ?_ ?_
                             rotate_left
                             · show Act.put _ (some 82) _ = _
                               simp only [Act.put, sx1, sx2, sx3, i64_w, i32_w]
                               rfl
                             refine pure_ (i := 6) (N := some 6) (v := ?_) (a' := ?_) #[true, true, true, true, true, true, true] rfl rfl (by kernel_rfl) (fun _ _ _ h => h) (Or.inl ⟨by rfl, ?_⟩) ?_ ?_
                             rotate_left
                             · intro w'
                               go_simp
                               with_reducible rfl
                             rotate_left
                             · simp only [Act.put, sx1, sx2, sx3, i64_w, i32_w]
                               rfl
                             refine done_ (by kernel_rfl) ?_
                             try go_wp2
                             go_loopg [7] kj28 (fun kq v7 w' => ∃ (x7_6 : Int), v7 = .int .i64 x7_6 ∧ Aside0 (spec_l18Well.l2 kq x3_2 x4_3 y460 x7_6 a0_0 l0_1 l0_2 = some r) ∧ Aside0 (kq ≤ kj28) ∧ Aside0 (Kd.R (Kd.int .i64) 2 w' w.heap.size (fun _ => True) v461 y460) ∧ Aside0 (w'.heap[gb444]? = some (.cells #[.int .i64 a0_0, (.slice A0_1 l0_1.length c0_1), (.slice (some ad445) l0_2.length c0_2)] 29 (0, 0))) ∧ Aside0 (w'.heap[gb448]? = some (.cells #[.int .i64 ((rd_T87 ((rd_T85 l0_2 x3_2).f0) x4_3).f0), .int .i64 ((rd_T87 ((rd_T85 l0_2 x3_2).f0) x4_3).f1), .int .i64 ((rd_T87 ((rd_T85 l0_2 x3_2).f0) x4_3).f2), .int .i64 ((rd_T87 ((rd_T85 l0_2 x3_2).f0) x4_3).f3), .int .i64 ((rd_T87 ((rd_T85 l0_2 x3_2).f0) x4_3).f4), .int .i64 ((rd_T87 ((rd_T85 l0_2 x3_2).f0) x4_3).f5), .string ((rd_T87 ((rd_T85 l0_2 x3_2).f0) x4_3).f6), (.slice A447_7 ((rd_T87 ((rd_T85 l0_2 x3_2).f0) x4_3).f7).length c447_7)] 87 (0, 0))) ∧ Aside0 (Below w.heap.size w w'))
                             case atStart => exact ⟨(0), sz_, H', ⟨Nat.le_refl _⟩, ⟨by (with_reducible repeat (first | apply Kd.R_alloc | apply Kd.R_drewN | apply Kd.R_drew)); exact Kd.R_mono HO462.out (fun _ hk => trivial)⟩, ⟨ kz⟩, ⟨ kz⟩, ⟨ bz⟩⟩
                             case round =>
                              clear H'
                              obtain ⟨x7_6, rfl, HA, HK6, HO_6, BK444, BK448, HB⟩ := hrel
                              cases gk with
                              | zero => exact absurd HA.out (by simp [spec_l18Well.l2])
                              | succ k6 =>
                               have H := HA.out
                               clear HA
                               simp only [spec_l18Well.l2] at H
                               by_cases c60 : x7_6 < (y460.length : Int)
                               · rw [if_pos c60] at H
                                 have c60b0 : decide (x7_6 < (y460.length : Int)) = true := decide_eq_true c60
                                 clear c60
                                 by_cases c61 : 0 ≤ x7_6
                                 · rw [if_pos c61] at H
                                   have c61b0 : decide (0 ≤ x7_6) = true := decide_eq_true c61
                                   clear c61
                                   by_cases c62 : (rd y460 x7_6) ≥ a0_0
                                   · rw [if_pos c62] at H
                                     have c62b0 : decide (a0_0 ≤ (rd y460 x7_6)) = true := decide_eq_true c62
                                     clear c62
                                     obtain rfl := Option.some.inj H
                                     obtain ⟨Ao63, co63, eo63⟩ := Kd.R_slice HO_6.out
                                     subst eo63
                                     try go_wp2
                                     have n0_ := Aside0.mk (Kd.R_drew HO_6.out)
                                     have n1_ := Aside0.mk (blk_drew BK444.out)
                                     have n2_ := Aside0.mk (blk_drew BK448.out)
                                     have n3_ := Aside0.mk (below_drew1 HB.out)
                                     clear HO_6
                                     clear BK444
                                     clear BK448
                                     clear HB
                                     have HO_6 := n0_
                                     have BK444 := n1_
                                     have BK448 := n2_
                                     have HB := n3_
                                     clear n0_ n1_ n2_ n3_
                                     have p463 : 0 ≤ (x7_6 : Int) := of_decide_eq_true az
                                     have q463 : x7_6 < (y460.length : Int) := of_decide_eq_true az
                                     obtain ⟨ad463, e463, hx463_0⟩ := Kd.at_int (Kd.R_reads' HO_6.out).2.2 x7_6 p463 q463
                                     cases e463
                                     replace p463 := eq_true p463
                                     replace q463 := eq_true q463
                                     refine start_ (n := 7) (S := fun w' => w'.cell? ⟨gb444, 0, none⟩ = some (.int .i64 a0_0) ∧ w'.cell? ⟨gb444, 1, none⟩ = some (.slice A0_1 l0_1.length c0_1) ∧ w'.cell? ⟨gb444, 2, none⟩ = some (.slice (some ad445) l0_2.length c0_2) ∧ w'.cell? (ad463.add (x7_6).toNat) = some (.int .i64 (rd y460 x7_6))) (ds := []) #[false, false, false, false, false, false, false] (by kernel_rfl) rfl rfl ⟨(blk_cell BK444.out 0).trans rfl, (blk_cell BK444.out 1).trans rfl, (blk_cell BK444.out 2).trans rfl, hx463_0⟩ (fun hHeld => ?_)
                                     generalize wr.drew = w64 at HO_6 BK444 BK448 HB hx463_0 hHeld ⊢
                                     refine pure_ (i := 0) (N := some 89) (v := ?_) (a' := ?_) #[true, false, false, false, false, false, false] rfl rfl (by kernel_rfl) (fun _ _ _ h => h) (Or.inl ⟨by rfl, ?_⟩) ?_ ?_
                                     rotate_left
                                     · intro w'
                                       go_simp
                                       with_reducible rfl
                                     rotate_left
                                     · simp only [Act.put, sx1, sx2, sx3, i64_w, i32_w]
                                       rfl
                                     refine pure_ (i := 1) (N := some 90) (v := ?_) (a' := ?_) #[true, true, false, false, false, false, false] rfl rfl (by kernel_rfl) (fun _ _ _ h => h) (Or.inl ⟨by rfl, ?_⟩) ?_ ?_
                                     rotate_left
                                     · intro w'
                                       go_simp
                                       with_reducible rfl
                                     rotate_left
                                     · simp only [Act.put, sx1, sx2, sx3, i64_w, i32_w]
                                       rfl
                                     refine pure_ (i := 2) (N := some 91) (v := ?_) (a' := ?_) #[true, true, true, false, false, false, false] rfl rfl (by kernel_rfl) (fun _ _ _ h => h) (Or.inl ⟨by rfl, ?_⟩) ?_ ?_
                                     rotate_left
                                     · intro w'
                                       go_simp
                                       with_reducible rfl
                                     rotate_left
                                     · simp only [Act.put, sx1, sx2, sx3, i64_w, i32_w]
                                       rfl
                                     refine pure_ (i := 4) (N := some 93) (v := ?_) (a' := ?_) #[true, true, true, false, true, false, false] rfl rfl (by kernel_rfl) (fun _ _ _ h => h) (Or.inl ⟨by rfl, ?_⟩) ?_ ?_
                                     rotate_left
                                     · intro w'
                                       go_simp
                                       with_reducible rfl
                                     rotate_left
                                     · simp only [Act.put, sx1, sx2, sx3, i64_w, i32_w]
                                       rfl
                                     refine take_ (i := 3) (N := some 92) (v := ?_) (a' := ?_) #[true, true, true, true, true, false, false] rfl rfl (by kernel_rfl) (fun _ _ _ h => h) (Or.inl ⟨by rfl, ?_⟩) hHeld ?_ ?_
                                     rotate_left
                                     · rintro w' ⟨s0, s1, s2, s3⟩
                                       go_simp
                                       with_reducible rfl
                                     rotate_left
                                     · simp only [Act.put, sx1, sx2, sx3, i64_w, i32_w]
                                       rfl
                                     refine take_ (i := 5) (N := some 94) (v := ?_) (a' := ?_) #[true, true, true, true, true, true, false] rfl rfl (by kernel_rfl) (fun _ _ _ h => h) (Or.inl ⟨by rfl, ?_⟩) hHeld ?_ ?_
                                     rotate_left
                                     · rintro w' ⟨s0, s1, s2, s3⟩
                                       go_simp
                                       with_reducible rfl
                                     rotate_left
                                     · simp only [Act.put, sx1, sx2, sx3, i64_w, i32_w]
                                       rfl
                                     refine pure_ (i := 6) (N := some 95) (v := ?_) (a' := ?_) #[true, true, true, true, true, true, true] rfl rfl (by kernel_rfl) (fun _ _ _ h => h) (Or.inl ⟨by rfl, ?_⟩) ?_ ?_
                                     rotate_left
                                     · intro w'
                                       go_simp
                                       with_reducible rfl
                                     rotate_left
                                     · simp only [Act.put, sx1, sx2, sx3, i64_w, i32_w]
                                       rfl
                                     refine done_ (by kernel_rfl) ?_
                                     try go_wp2
                                     go_ret
                                     exact ⟨by first | rfl | (simp [errW_none, errW_some] <;> rfl) | (simp [*, errW_none, errW_some] <;> rfl), bz⟩
                                   · rw [if_neg c62] at H
                                     have c62b0 : decide (a0_0 ≤ (rd y460 x7_6)) = false := decide_eq_false c62
                                     clear c62
                                     have H' := Aside0.mk H
                                     clear H
                                     obtain ⟨Ao65, co65, eo65⟩ := Kd.R_slice HO_6.out
                                     subst eo65
                                     try go_wp2
                                     have n0_ := Aside0.mk (Kd.R_drew HO_6.out)
                                     have n1_ := Aside0.mk (blk_drew BK444.out)
                                     have n2_ := Aside0.mk (blk_drew BK448.out)
                                     have n3_ := Aside0.mk (below_drew1 HB.out)
                                     clear HO_6
                                     clear BK444
                                     clear BK448
                                     clear HB
                                     have HO_6 := n0_
                                     have BK444 := n1_
                                     have BK448 := n2_
                                     have HB := n3_
                                     clear n0_ n1_ n2_ n3_
                                     have p463 : 0 ≤ (x7_6 : Int) := of_decide_eq_true az
                                     have q463 : x7_6 < (y460.length : Int) := of_decide_eq_true az
                                     obtain ⟨ad463, e463, hx463_0⟩ := Kd.at_int (Kd.R_reads' HO_6.out).2.2 x7_6 p463 q463
                                     cases e463
                                     replace p463 := eq_true p463
                                     replace q463 := eq_true q463
                                     refine start_ (n := 7) (S := fun w' => w'.cell? ⟨gb444, 0, none⟩ = some (.int .i64 a0_0) ∧ w'.cell? ⟨gb444, 1, none⟩ = some (.slice A0_1 l0_1.length c0_1) ∧ w'.cell? ⟨gb444, 2, none⟩ = some (.slice (some ad445) l0_2.length c0_2) ∧ w'.cell? (ad463.add (x7_6).toNat) = some (.int .i64 (rd y460 x7_6))) (ds := []) #[false, false, false, false, false, false, false] (by kernel_rfl) rfl rfl ⟨(blk_cell BK444.out 0).trans rfl, (blk_cell BK444.out 1).trans rfl, (blk_cell BK444.out 2).trans rfl, hx463_0⟩ (fun hHeld => ?_)
                                     generalize wr.drew = w66 at HO_6 BK444 BK448 HB hx463_0 hHeld ⊢
                                     refine pure_ (i := 0) (N := some 89) (v := ?_) (a' := ?_) #[true, false, false, false, false, false, false] rfl rfl (by kernel_rfl) (fun _ _ _ h => h) (Or.inl ⟨by rfl, ?_⟩) ?_ ?_
                                     rotate_left
                                     · intro w'
                                       go_simp
                                       with_reducible rfl
                                     rotate_left
                                     · simp only [Act.put, sx1, sx2, sx3, i64_w, i32_w]
                                       rfl
                                     refine pure_ (i := 1) (N := some 90) (v := ?_) (a' := ?_) #[true, true, false, false, false, false, false] rfl rfl (by kernel_rfl) (fun _ _ _ h => h) (Or.inl ⟨by rfl, ?_⟩) ?_ ?_
                                     rotate_left
                                     · intro w'
                                       go_simp
                                       with_reducible rfl
                                     rotate_left
                                     · simp only [Act.put, sx1, sx2, sx3, i64_w, i32_w]
                                       rfl
                                     refine pure_ (i := 2) (N := some 91) (v := ?_) (a' := ?_) #[true, true, true, false, false, false, false] rfl rfl (by kernel_rfl) (fun _ _ _ h => h) (Or.inl ⟨by rfl, ?_⟩) ?_ ?_
                                     rotate_left
                                     · intro w'
                                       go_simp
                                       with_reducible rfl
                                     rotate_left
                                     · simp only [Act.put, sx1, sx2, sx3, i64_w, i32_w]
                                       rfl
                                     refine pure_ (i := 4) (N := some 93) (v := ?_) (a' := ?_) #[true, true, true, false, true, false, false] rfl rfl (by kernel_rfl) (fun _ _ _ h => h) (Or.inl ⟨by rfl, ?_⟩) ?_ ?_
                                     rotate_left
                                     · intro w'
                                       go_simp
                                       with_reducible rfl
                                     rotate_left
                                     · simp only [Act.put, sx1, sx2, sx3, i64_w, i32_w]
                                       rfl
                                     refine take_ (i := 3) (N := some 92) (v := ?_) (a' := ?_) #[true, true, true, true, true, false, false] rfl rfl (by kernel_rfl) (fun _ _ _ h => h) (Or.inl ⟨by rfl, ?_⟩) hHeld ?_ ?_
                                     rotate_left
                                     · rintro w' ⟨s0, s1, s2, s3⟩
                                       go_simp
                                       with_reducible rfl
                                     rotate_left
                                     · simp only [Act.put, sx1, sx2, sx3, i64_w, i32_w]
                                       rfl
                                     refine take_ (i := 5) (N := some 94) (v := ?_) (a' := ?_) #[true, true, true, true, true, true, false] rfl rfl (by kernel_rfl) (fun _ _ _ h => h) (Or.inl ⟨by rfl, ?_⟩) hHeld ?_ ?_
                                     rotate_left
                                     · rintro w' ⟨s0, s1, s2, s3⟩
                                       go_simp
                                       with_reducible rfl
                                     rotate_left
                                     · simp only [Act.put, sx1, sx2, sx3, i64_w, i32_w]
                                       rfl
                                     refine pure_ (i := 6) (N := some 95) (v := ?_) (a' := ?_) #[true, true, true, true, true, true, true] rfl rfl (by kernel_rfl) (fun _ _ _ h => h) (Or.inl ⟨by rfl, ?_⟩) ?_ ?_
                                     rotate_left
                                     · intro w'
                                       go_simp
                                       with_reducible rfl
                                     rotate_left
                                     · simp only [Act.put, sx1, sx2, sx3, i64_w, i32_w]
                                       rfl
                                     refine done_ (by kernel_rfl) ?_
                                     try go_wp2
                                     go_roundg k6
                                     case measure => have := HJ1.out; have := HK2.out; have := HK3.out; have := HJ13.out; have := HJ28.out; have := HK6.out; omega
                                     case rel => exact ⟨(wrap64 (x7_6 + 1)), sz_, H', ⟨by have := HJ1.out; have := HK2.out; have := HK3.out; have := HJ13.out; have := HJ28.out; have := HK6.out; omega⟩, ⟨by (with_reducible repeat (first | apply Kd.R_alloc | apply Kd.R_drewN | apply Kd.R_drew)); exact HO_6.out⟩, ⟨ kz⟩, ⟨ kz⟩, ⟨ bz⟩⟩
                                 · rw [if_neg c61] at H
                                   exact absurd H (by simp)
                               · rw [if_neg c60] at H
                                 have c60b0 : decide (x7_6 < (y460.length : Int)) = false := decide_eq_false c60
                                 clear c60
                                 have H' := Aside0.mk H
                                 clear H
                                 obtain ⟨Ao67, co67, eo67⟩ := Kd.R_slice HO_6.out
                                 subst eo67
                                 go_wp2
                                 go_roundg k6
                                 case measure => have := HJ1.out; have := HK2.out; have := HK3.out; have := HJ13.out; have := HJ28.out; have := HK6.out; omega
                                 case rel => exact ⟨(wrap64 (x4_3 + 1)), sz_, H', ⟨by have := HJ1.out; have := HK2.out; have := HK3.out; have := HJ13.out; have := HJ28.out; have := HK6.out; omega⟩, ⟨ kz⟩, ⟨ bz⟩⟩
                           · rw [if_neg c52] at H
                             exact absurd H (by simp)
                 · rw [if_neg c13] at H
                   exact absurd H (by simp)
               · rw [if_neg c12] at H
                 have c12b0 : decide (x4_3 < (((rd_T85 l0_2 x3_2).f0).length : Int)) = false := decide_eq_false c12
                 clear c12
                 have H' := Aside0.mk H
                 clear H
                 have hcz68_0 : wr.cell? ⟨gb444, 0, none⟩ = some (.int .i64 a0_0) := (blk_cell BK444.out 0).trans rfl
                 have hcz68_1 : wr.cell? ⟨gb444, 1, none⟩ = some (.slice A0_1 l0_1.length c0_1) := (blk_cell BK444.out 1).trans rfl
                 have hcz68_2 : wr.cell? ⟨gb444, 2, none⟩ = some (.slice A0_2 l0_2.length c0_2) := (blk_cell BK444.out 2).trans rfl
                 have p445 : 0 ≤ (x3_2 : Int) := of_decide_eq_true az
                 have q445 : x3_2 < (l0_2.length : Int) := of_decide_eq_true az
                 obtain ⟨ad445, A445_0, c445_0, e445, hx445_0, hl445_0, hi445_0⟩ := at_T85 HR0_2.out x3_2 p445 q445
                 cases e445
                 replace hx445_0 := ck HB hx445_0
                 have HR445_0 := Aside0.mk hi445_0
                 have HC445_0 := Aside0.mk hl445_0
                 clear hi445_0 hl445_0
                 replace p445 := eq_true p445
                 replace q445 := eq_true q445
                 go_wp2
                 go_roundg k3
                 case measure => have := HJ1.out; have := HK2.out; have := HK3.out; omega
                 case rel => exact ⟨(wrap64 (x3_2 + 1)), sz_, H', ⟨by have := HJ1.out; have := HK2.out; have := HK3.out; omega⟩, ⟨ kz⟩, ⟨ bz⟩⟩
             · rw [if_neg c11] at H
               exact absurd H (by simp)
           · rw [if_neg c10] at H
             exact absurd H (by simp)
       · rw [if_neg c8] at H
         have c8b0 : decide (x3_2 < (l0_2.length : Int)) = false := decide_eq_false c8
         clear c8
         obtain rfl := Option.some.inj H
         have hcz69_0 : wr.cell? ⟨gb444, 0, none⟩ = some (.int .i64 a0_0) := (blk_cell BK444.out 0).trans rfl
         have hcz69_1 : wr.cell? ⟨gb444, 1, none⟩ = some (.slice A0_1 l0_1.length c0_1) := (blk_cell BK444.out 1).trans rfl
         have hcz69_2 : wr.cell? ⟨gb444, 2, none⟩ = some (.slice A0_2 l0_2.length c0_2) := (blk_cell BK444.out 2).trans rfl
         go_wp2
         go_ret
         exact ⟨by first | rfl | (simp [errW_none, errW_some] <;> rfl) | (simp [*, errW_none, errW_some] <;> rfl), bz⟩

end Go.Proofs.Ythegbhfoleiegaa.All

/- Plain laws of the printed functions: eventually (Ev), step by step; loops over a list. -/
namespace Go.Proofs.Ythegbhfoleiegaa.All
open Go.RowKit Go.Proofs.YthegbhfoleiegaaW.PrintWords Go.Proofs.YthegbhfoleiegaaW.PrintLast Go.Proofs.YthegbhfoleiegaaW.PrintMore
set_option linter.unusedVariables false
set_option linter.unusedSimpArgs false
theorem Ev.succ {α : Type} {g : Nat → Option α} {r : α} (h : Ev (fun k => g (k + 1)) r) : Ev g r := by
  obtain ⟨K, hK⟩ := h
  refine ⟨K + 1, fun k hk => ?_⟩
  obtain ⟨m, rfl⟩ : ∃ m, k = m + 1 := ⟨k - 1, by omega⟩
  exact hK m (by omega)
theorem Ev.pos {α : Type} {c : Prop} [Decidable c] {g h : Nat → Option α} {r : α} (hc : c) (k : Ev g r) : Ev (fun n => if c then g n else h n) r := Ev.congr (fun n => if_pos hc) k
theorem Ev.neg {α : Type} {c : Prop} [Decidable c] {g h : Nat → Option α} {r : α} (hc : ¬ c) (k : Ev h r) : Ev (fun n => if c then g n else h n) r := Ev.congr (fun n => if_neg hc) k
theorem Ev.some_bind {α β : Type} {a : α} {f : Nat → α → Option β} {r : β} (k : Ev (fun n => f n a) r) : Ev (fun n => (some a).bind (f n)) r := k
theorem Ev.eq_bind {α β : Type} {o : Option α} {a : α} {f : Nat → α → Option β} {r : β} (h : o = some a) (k : Ev (fun n => f n a) r) : Ev (fun n => o.bind (f n)) r := by subst h; exact k
theorem Ev.some {α : Type} {a r : α} (h : a = r) : Ev (fun _ => some a) r := h ▸ Ev.now a
theorem wrap64_id {x : Int} (h1 : -9223372036854775808 ≤ x) (h2 : x ≤ 9223372036854775807) : wrap64 x = x := by unfold wrap64; omega
theorem wrap64_nat {i : Nat} (h : i < 9223372036854775807) : wrap64 ((i : Int) + 1) = ((i + 1 : Nat) : Int) := by rw [wrap64_id (by omega) (by omega)]; rfl
theorem getD_eq {α : Type} {xs : List α} {i : Nat} (h : i < xs.length) (z : α) : xs.getD i z = xs[i] := by rw [List.getD_eq_getElem?_getD, List.getElem?_eq_getElem h]; rfl
/-- A loop that fills a list of the same length. -/
theorem to_gen {α β : Type} (f : α → β) (z : β) (za : α) (xs : List α) (g : Nat → List β → Int → Option (List β))
    (hstep : ∀ (i : Nat) (out : List β) (r : List β), i < xs.length → out.length = xs.length → Ev (fun k => g k (out.set i (f (xs.getD i za))) ((i + 1 : Nat) : Int)) r → Ev (fun k => g k out (i : Int)) r)
    (hend : ∀ out : List β, out.length = xs.length → Ev (fun k => g k out (xs.length : Int)) out) : Ev (fun k => g k (List.replicate xs.length z) 0) (xs.map f) := by
  have key : ∀ d i : Nat, i + d = xs.length → Ev (fun k => g k ((xs.map f).take i ++ List.replicate (xs.length - i) z) (i : Int)) (xs.map f) := by
    intro d
    induction d with
    | zero =>
      intro i hi
      obtain rfl : i = xs.length := by omega
      rw [Nat.sub_self, List.replicate_zero, List.append_nil, List.take_of_length_le (by simp)]
      exact hend _ (by simp)
    | succ d ih =>
      intro i hi
      have h1 := ih (i + 1) (by omega)
      refine hstep i _ _ (by omega) (by simp; omega) ?_
      have e : ((xs.map f).take i ++ List.replicate (xs.length - i) z).set i (f (xs.getD i za)) = (xs.map f).take (i + 1) ++ List.replicate (xs.length - (i + 1)) z := by
        have hl : ((xs.map f).take i).length = i := by simp; omega
        rw [List.set_append_right _ _ (by omega), hl, Nat.sub_self]
        obtain ⟨m, hm⟩ : ∃ m, xs.length - i = m + 1 := ⟨xs.length - i - 1, by omega⟩
        rw [hm, List.replicate_succ, List.set_cons_zero, List.take_succ_eq_append_getElem (by simp; omega), show xs.length - (i + 1) = m by omega, List.append_assoc]
        congr 1
        simp [List.getElem?_eq_getElem (show i < xs.length by omega)]
      rw [e]
      exact h1
  have h0 := key xs.length 0 (by omega)
  simpa using h0
/-- A loop whose end is r, whatever happens on the way. -/
theorem for_gen {ρ : Type} (r : ρ) (n : Nat) (g : Nat → Int → Option ρ) (hstep : ∀ i : Nat, i < n → Ev (fun k => g k ((i + 1 : Nat) : Int)) r → Ev (fun k => g k (i : Int)) r) (hend : Ev (fun k => g k (n : Int)) r) : Ev (fun k => g k 0) r := by
  have key : ∀ d i : Nat, i + d = n → Ev (fun k => g k (i : Int)) r := by
    intro d
    induction d with
    | zero => intro i hi; obtain rfl : i = n := by omega
              exact hend
    | succ d ih => intro i hi; exact hstep i (by omega) (ih (i + 1) (by omega))
  exact key n 0 (by omega)
/-- A loop that says yes at each step. -/
theorem all_gen (n : Nat) (g : Nat → Int → Option Bool) (hstep : ∀ i : Nat, i < n → Ev (fun k => g k ((i + 1 : Nat) : Int)) true → Ev (fun k => g k (i : Int)) true) (hend : Ev (fun k => g k (n : Int)) true) : Ev (fun k => g k 0) true := for_gen true n g hstep hend
/-- A loop that writes each element anew, by its number. -/
theorem mk_gen {β ρ : Type} (f : Nat → β) (xs : List β) (fin : List β → ρ) (g : Nat → List β → Int → Option ρ)
    (hstep : ∀ (i : Nat) (out : List β) (r : ρ), i < xs.length → out.length = xs.length → Ev (fun k => g k (out.set i (f i)) ((i + 1 : Nat) : Int)) r → Ev (fun k => g k out (i : Int)) r)
    (hend : ∀ out : List β, out.length = xs.length → Ev (fun k => g k out (xs.length : Int)) (fin out)) : Ev (fun k => g k xs 0) (fin ((List.range xs.length).map f)) := by
  have key : ∀ d i : Nat, i + d = xs.length → Ev (fun k => g k ((List.range i).map f ++ xs.drop i) (i : Int)) (fin ((List.range xs.length).map f)) := by
    intro d
    induction d with
    | zero =>
      intro i hi
      obtain rfl : i = xs.length := by omega
      rw [List.drop_length, List.append_nil]
      exact hend _ (by simp)
    | succ d ih =>
      intro i hi
      have h1 := ih (i + 1) (by omega)
      refine hstep i _ _ (by omega) (by simp; omega) ?_
      have e : ((List.range i).map f ++ xs.drop i).set i (f i) = (List.range (i + 1)).map f ++ xs.drop (i + 1) := by
        have hl : ((List.range i).map f).length = i := by simp
        rw [List.set_append_right _ _ (by omega), hl, Nat.sub_self, List.drop_eq_getElem_cons (show i < xs.length by omega), List.set_cons_zero, List.range_succ, List.map_append, List.append_assoc]
        rfl
      rw [e]
      exact h1
  have h0 := key xs.length 0 (by omega)
  simpa using h0
/-- A loop that takes sizes off; below 0 it ends with -1. -/
theorem sz_gen {α : Type} (s : α → Nat) (za : α) (xs : List α) (g : Nat → Int → Int → Option Int)
    (hstep : ∀ (i : Nat) (a r : Int), i < xs.length → 0 ≤ a → a ≤ 1048576 → (if (s (xs.getD i za) : Int) ≤ a then Ev (fun k => g k (a - s (xs.getD i za)) ((i + 1 : Nat) : Int)) r else r = -1) → Ev (fun k => g k a (i : Int)) r)
    (hend : ∀ a : Int, Ev (fun k => g k a (xs.length : Int)) a) (a : Int) (h0 : 0 ≤ a) (h1 : a ≤ 1048576) : Ev (fun k => g k a 0) (if ((xs.map s).sum : Int) ≤ a then a - (xs.map s).sum else -1) := by
  have key : ∀ d i : Nat, i + d = xs.length → ∀ a : Int, 0 ≤ a → a ≤ 1048576 → Ev (fun k => g k a (i : Int)) (if ((((xs.drop i).map s).sum : Nat) : Int) ≤ a then a - (((xs.drop i).map s).sum : Nat) else -1) := by
    intro d
    induction d with
    | zero =>
      intro i hi a h0 h1
      obtain rfl : i = xs.length := by omega
      rw [List.drop_length]
      simp [h0]
      exact hend a
    | succ d ih =>
      intro i hi a h0 h1
      have hlt : i < xs.length := by omega
      refine hstep i a _ hlt h0 h1 ?_
      rw [List.drop_eq_getElem_cons hlt, List.map_cons, List.sum_cons, getD_eq hlt]
      split
      · rename_i hc
        have h2 := ih (i + 1) (by omega) (a - (s xs[i] : Nat)) (by omega) (by omega)
        have e : (if ((((xs.drop (i + 1)).map s).sum : Nat) : Int) ≤ a - (s xs[i] : Nat) then a - (s xs[i] : Nat) - (((xs.drop (i + 1)).map s).sum : Nat) else -1) = (if ((s xs[i] + ((xs.drop (i + 1)).map s).sum : Nat) : Int) ≤ a then a - (s xs[i] + ((xs.drop (i + 1)).map s).sum : Nat) else -1) := by
          split <;> split <;> omega
        rw [← e]
        exact h2
      · rename_i hc
        rw [if_neg (by omega)]
  have h2 := key xs.length 0 (by omega) a h0 h1
  simpa using h2
theorem sum_getD_le {α : Type} (s : α → Nat) (z : α) : ∀ (xs : List α) (i : Nat), i < xs.length → s (xs.getD i z) ≤ (xs.map s).sum
  | x :: xs, 0, _ => by simp
  | x :: xs, i + 1, h => by
    have := sum_getD_le s z xs i (by simpa using h)
    simp only [List.getD_cons_succ, List.map_cons, List.sum_cons] at this ⊢
    omega
end Go.Proofs.Ythegbhfoleiegaa.All

namespace Go.Proofs.Ythegbhfoleiegaa.All
open Go.RowKit Go.Proofs.YthegbhfoleiegaaW.PrintWords Go.Proofs.YthegbhfoleiegaaW.PrintLast Go.Proofs.YthegbhfoleiegaaW.PrintMore
attribute [local go_sem] max2_int min2_int max_two min_two max_three min_three max_four min_four   -- for this text's walks alone
set_option linter.unusedVariables false
set_option linter.unusedSimpArgs false

mutual
def impl_Reads.j0 : Nat → List Int → Int → Bool → Int → Int → Int → Int → Int → Int → ByteArray → List Int → Option (List Int)
 | 0, _, _, _, _, _, _, _, _, _, _, _ => none
 | k + 1, x3, x4, x21, x242000, x242001, x242002, x242003, x242004, x242005, x242006, x242007 => if x21 = true then (impl_Reads.j1 k x3 (-1) x242000 x242001 x242002 x242003 x242004 x242005 x242006 x242007) else (impl_Reads.j1 k x3 x4 x242000 x242001 x242002 x242003 x242004 x242005 x242006 x242007)
def impl_Reads.j1 : Nat → List Int → Int → Int → Int → Int → Int → Int → Int → ByteArray → List Int → Option (List Int)
 | 0, _, _, _, _, _, _, _, _, _, _ => none
 | k + 1, x3, x4, x242000, x242001, x242002, x242003, x242004, x242005, x242006, x242007 => (some (([x242002, x242003, x4] : List Int) : List Int)).bind fun y242 => (if y242.length + x242007.length < 17592186044416 then ((some (y242 ++ x242007 : List Int)).bind fun y245 => (impl_Reads.l0 k x3 y245 (y245.length : Int) 0)) else (none))
def impl_Reads.l0 : Nat → List Int → List Int → Int → Int → Option (List Int)
 | 0, _, _, _, _ => none
 | k + 1, x3, x30, x31, x32 => if x32 < x31 then (if 0 ≤ x32 then (if x32 < (x30.length : Int) then (if (rd x30 x32) ≥ 0 then (if x3.length < 17592186044416 then (impl_Reads.l0 k (x3 ++ [rd x30 x32]) x30 x31 (wrap64 (x32 + 1))) else (none)) else (impl_Reads.l0 k x3 x30 x31 (wrap64 (x32 + 1)))) else (none)) else (none)) else (some x3)
end
def impl_Reads.f (k : Nat) (a0_0 : Int) (a0_1 : Int) (a0_2 : Int) (a0_3 : Int) (a0_4 : Int) (a0_5 : Int) (a0_6 : ByteArray) (l0_7 : List Int) : Option (List Int) := if a0_0 = 20 then (impl_Reads.j0 k ([] : List Int) a0_4 true a0_0 a0_1 a0_2 a0_3 a0_4 a0_5 a0_6 l0_7) else (if a0_0 = 21 then (impl_Reads.j0 k ([] : List Int) a0_4 true a0_0 a0_1 a0_2 a0_3 a0_4 a0_5 a0_6 l0_7) else (impl_Reads.j0 k ([] : List Int) a0_4 (a0_0 == 46) a0_0 a0_1 a0_2 a0_3 a0_4 a0_5 a0_6 l0_7))
set_option maxHeartbeats 8000000 in
set_option maxRecDepth 100000 in
theorem impl_Reads.calls (k : Nat) (a0_0 : Int) (a0_1 : Int) (a0_2 : Int) (a0_3 : Int) (a0_4 : Int) (a0_5 : Int) (a0_6 : ByteArray) (A0_7 : Option Addr) (c0_7 : Nat) (l0_7 : List Int) (r : List Int) (w : World) (hr0_7 : Kd.C (Kd.int .i64) w A0_7 l0_7.length l0_7) (hc0_7 : l0_7.length ≤ c0_7) (h : impl_Reads.f k a0_0 a0_1 a0_2 a0_3 a0_4 a0_5 a0_6 l0_7 = some r) :
 Calls Try.prog 64 #[.agg #[.int .i64 a0_0, .int .i64 a0_1, .int .i64 a0_2, .int .i64 a0_3, .int .i64 a0_4, .int .i64 a0_5, .string a0_6, .slice A0_7 l0_7.length c0_7]] w fun e w' => ∃ v0_ : Value, e = .returned (v0_) ∧ Kd.R (Kd.int .i64) 2 w' w.heap.size (fun _ => True) v0_ r ∧ Below w.heap.size w w' := by
 have hu87 := Try.underlying87
 have HR0_7 := Aside0.mk hr0_7
 have HC0_7 := Aside0.mk hc0_7
 clear hr0_7 hc0_7
 have HB := Aside0.mk (Below.refl w.heap.size w)
 have H : (if a0_0 = 20 then (impl_Reads.j0 k ([] : List Int) a0_4 true a0_0 a0_1 a0_2 a0_3 a0_4 a0_5 a0_6 l0_7) else (if a0_0 = 21 then (impl_Reads.j0 k ([] : List Int) a0_4 true a0_0 a0_1 a0_2 a0_3 a0_4 a0_5 a0_6 l0_7) else (impl_Reads.j0 k ([] : List Int) a0_4 (a0_0 == 46) a0_0 a0_1 a0_2 a0_3 a0_4 a0_5 a0_6 l0_7))) = some r := h
 clear h
 have HC2 := Aside0.mk H
 clear H
 go_enter Try.func64, Try.ntmps64
 go_upto_region 3 with (first | ((with_reducible refine gate_dst (N := 1) rfl ?_); refine box_event ?hg (N := 1) ?hd (cs := #[.int .i64 a0_0, .int .i64 a0_1, .int .i64 a0_2, .int .i64 a0_3, .int .i64 a0_4, .int .i64 a0_5, .string a0_6, .slice A0_7 l0_7.length c0_7]) (t := 87) ?hr ?_; (case hd => rfl); (case hg => rfl); (case hr => first | (go_simp; done) | (go_simp; rfl)); intro gb241 hg w3 hbox hb; have n0_ := Aside0.mk (below_step bz hb); have n1_ := Aside0.mk (hbox); have n2_ := Aside0.mk ((by rw [hg]; exact (below_size bz) : w.heap.size ≤ gb241)); have n3_ := Aside0.mk ((by rw [hg]; exact (below_size bz) : w.heap.size ≤ gb241)); clear HB; have HB := n0_; have BK241 := n1_; have GW241 := n2_; have GE241 := n3_; clear n0_ n1_ n2_ n3_; clear hb hbox hg; have hcz4_0 : w3.cell? ⟨gb241, 0, none⟩ = some (.int .i64 a0_0) := (blk_cell BK241.out 0).trans rfl; have hcz4_1 : w3.cell? ⟨gb241, 1, none⟩ = some (.int .i64 a0_1) := (blk_cell BK241.out 1).trans rfl; have hcz4_2 : w3.cell? ⟨gb241, 2, none⟩ = some (.int .i64 a0_2) := (blk_cell BK241.out 2).trans rfl; have hcz4_3 : w3.cell? ⟨gb241, 3, none⟩ = some (.int .i64 a0_3) := (blk_cell BK241.out 3).trans rfl; have hcz4_4 : w3.cell? ⟨gb241, 4, none⟩ = some (.int .i64 a0_4) := (blk_cell BK241.out 4).trans rfl; have hcz4_5 : w3.cell? ⟨gb241, 5, none⟩ = some (.int .i64 a0_5) := (blk_cell BK241.out 5).trans rfl; have hcz4_6 : w3.cell? ⟨gb241, 6, none⟩ = some (.string a0_6) := (blk_cell BK241.out 6).trans rfl; have hcz4_7 : w3.cell? ⟨gb241, 7, none⟩ = some (.slice A0_7 l0_7.length c0_7) := (blk_cell BK241.out 7).trans rfl; have hfz4_0 := blk_frozen BK241.out 0; have hfz4_1 := blk_frozen BK241.out 1; have hfz4_2 := blk_frozen BK241.out 2; have hfz4_3 := blk_frozen BK241.out 3; have hfz4_4 := blk_frozen BK241.out 4; have hfz4_5 := blk_frozen BK241.out 5; have hfz4_6 := blk_frozen BK241.out 6; have hfz4_7 := blk_frozen BK241.out 7))
 (try simp only [Act.put, sx1, sx2, sx3])
 go_cut [21] (fun v21 wc => ∃ (kq : Nat) (x21_1 : Bool), v21 = .bool x21_1 ∧ Aside0 (impl_Reads.j0 kq ([] : List Int) a0_4 x21_1 a0_0 a0_1 a0_2 a0_3 a0_4 a0_5 a0_6 l0_7 = some r) ∧ Aside0 (kq ≤ k) ∧ Aside0 (Kd.R (Kd.int .i64) 2 wc w.heap.size (fun _ => True) (.slice none 0 0) ([] : List Int)) ∧ Aside0 (wc.heap[gb241]? = some (.cells #[.int .i64 a0_0, .int .i64 a0_1, .int .i64 a0_2, .int .i64 a0_3, .int .i64 a0_4, .int .i64 a0_5, .string a0_6, (.slice A0_7 l0_7.length c0_7)] 87 (0, 0))) ∧ Aside0 (Below w.heap.size w wc))
 case first =>
  have H := HC2.out
  clear HC2
  by_cases c5 : a0_0 = 20
  · rw [if_pos c5] at H
    have c5b0 : (a0_0 == 20) = true := beq_iff_eq.mpr c5
    have c5b1 : (a0_0 != 20) = false := bne_eq_false_iff_eq.mpr c5
    clear c5
    (first | rw [c5b0] | (simp only [i64_w, i32_w]; rw [c5b0]) | skip)
    have H' := Aside0.mk H
    clear H
    have hcz6_0 : w3.cell? ⟨gb241, 0, none⟩ = some (.int .i64 a0_0) := (blk_cell BK241.out 0).trans rfl
    have hcz6_1 : w3.cell? ⟨gb241, 1, none⟩ = some (.int .i64 a0_1) := (blk_cell BK241.out 1).trans rfl
    have hcz6_2 : w3.cell? ⟨gb241, 2, none⟩ = some (.int .i64 a0_2) := (blk_cell BK241.out 2).trans rfl
    have hcz6_3 : w3.cell? ⟨gb241, 3, none⟩ = some (.int .i64 a0_3) := (blk_cell BK241.out 3).trans rfl
    have hcz6_4 : w3.cell? ⟨gb241, 4, none⟩ = some (.int .i64 a0_4) := (blk_cell BK241.out 4).trans rfl
    have hcz6_5 : w3.cell? ⟨gb241, 5, none⟩ = some (.int .i64 a0_5) := (blk_cell BK241.out 5).trans rfl
    have hcz6_6 : w3.cell? ⟨gb241, 6, none⟩ = some (.string a0_6) := (blk_cell BK241.out 6).trans rfl
    have hcz6_7 : w3.cell? ⟨gb241, 7, none⟩ = some (.slice A0_7 l0_7.length c0_7) := (blk_cell BK241.out 7).trans rfl
    go_wp2
    go_meet
    case rel => exact ⟨_, (true), sz_, H', ⟨by first | omega | exact Nat.le_refl _⟩, ⟨by first | exact Kd.R_nil _ _ _ _ _ | exact Kd.N_nil _ _ _ _ _ | exact Kd.V_nil _ _ _ _ _ | exact Kd.Q_nil _ _ _ _ _ | exact Kd.S_nil _ _ _ _ _⟩, ⟨ kz⟩, ⟨ bz⟩⟩
  · rw [if_neg c5] at H
    have c5b0 : (a0_0 == 20) = false := beq_eq_false_iff_ne.mpr c5
    have c5b1 : (a0_0 != 20) = true := bne_iff_ne.mpr c5
    (first | rw [c5b0] | (simp only [i64_w, i32_w]; rw [c5b0]) | skip)
    by_cases c7 : a0_0 = 21
    · rw [if_pos c7] at H
      have c7b0 : (a0_0 == 21) = true := beq_iff_eq.mpr c7
      have c7b1 : (a0_0 != 21) = false := bne_eq_false_iff_eq.mpr c7
      clear c7
      have H' := Aside0.mk H
      clear H
      have hcz8_0 : w3.cell? ⟨gb241, 0, none⟩ = some (.int .i64 a0_0) := (blk_cell BK241.out 0).trans rfl
      have hcz8_1 : w3.cell? ⟨gb241, 1, none⟩ = some (.int .i64 a0_1) := (blk_cell BK241.out 1).trans rfl
      have hcz8_2 : w3.cell? ⟨gb241, 2, none⟩ = some (.int .i64 a0_2) := (blk_cell BK241.out 2).trans rfl
      have hcz8_3 : w3.cell? ⟨gb241, 3, none⟩ = some (.int .i64 a0_3) := (blk_cell BK241.out 3).trans rfl
      have hcz8_4 : w3.cell? ⟨gb241, 4, none⟩ = some (.int .i64 a0_4) := (blk_cell BK241.out 4).trans rfl
      have hcz8_5 : w3.cell? ⟨gb241, 5, none⟩ = some (.int .i64 a0_5) := (blk_cell BK241.out 5).trans rfl
      have hcz8_6 : w3.cell? ⟨gb241, 6, none⟩ = some (.string a0_6) := (blk_cell BK241.out 6).trans rfl
      have hcz8_7 : w3.cell? ⟨gb241, 7, none⟩ = some (.slice A0_7 l0_7.length c0_7) := (blk_cell BK241.out 7).trans rfl
      go_wp2
      go_meet
      case rel => exact ⟨_, (true), sz_, H', ⟨by first | omega | exact Nat.le_refl _⟩, ⟨by first | exact Kd.R_nil _ _ _ _ _ | exact Kd.N_nil _ _ _ _ _ | exact Kd.V_nil _ _ _ _ _ | exact Kd.Q_nil _ _ _ _ _ | exact Kd.S_nil _ _ _ _ _⟩, ⟨ kz⟩, ⟨ bz⟩⟩
    · rw [if_neg c7] at H
      have c7b0 : (a0_0 == 21) = false := beq_eq_false_iff_ne.mpr c7
      have c7b1 : (a0_0 != 21) = true := bne_iff_ne.mpr c7
      have H' := Aside0.mk H
      clear H
      have hcz9_0 : w3.cell? ⟨gb241, 0, none⟩ = some (.int .i64 a0_0) := (blk_cell BK241.out 0).trans rfl
      have hcz9_1 : w3.cell? ⟨gb241, 1, none⟩ = some (.int .i64 a0_1) := (blk_cell BK241.out 1).trans rfl
      have hcz9_2 : w3.cell? ⟨gb241, 2, none⟩ = some (.int .i64 a0_2) := (blk_cell BK241.out 2).trans rfl
      have hcz9_3 : w3.cell? ⟨gb241, 3, none⟩ = some (.int .i64 a0_3) := (blk_cell BK241.out 3).trans rfl
      have hcz9_4 : w3.cell? ⟨gb241, 4, none⟩ = some (.int .i64 a0_4) := (blk_cell BK241.out 4).trans rfl
      have hcz9_5 : w3.cell? ⟨gb241, 5, none⟩ = some (.int .i64 a0_5) := (blk_cell BK241.out 5).trans rfl
      have hcz9_6 : w3.cell? ⟨gb241, 6, none⟩ = some (.string a0_6) := (blk_cell BK241.out 6).trans rfl
      have hcz9_7 : w3.cell? ⟨gb241, 7, none⟩ = some (.slice A0_7 l0_7.length c0_7) := (blk_cell BK241.out 7).trans rfl
      go_wp2
      go_meet
      case rel => exact ⟨_, ((a0_0 == 46)), sz_, H', ⟨by first | omega | exact Nat.le_refl _⟩, ⟨by first | exact Kd.R_nil _ _ _ _ _ | exact Kd.N_nil _ _ _ _ _ | exact Kd.V_nil _ _ _ _ _ | exact Kd.Q_nil _ _ _ _ _ | exact Kd.S_nil _ _ _ _ _⟩, ⟨ kz⟩, ⟨ bz⟩⟩
 case rest =>
  clear HC2
  obtain ⟨kq, x21_1, rfl, HA, HJ1, HO_3, BK241, HB⟩ := hcut
  cases kq with
  | zero => exact absurd HA.out (by simp [impl_Reads.j0])
  | succ kj1 =>
   have H := HA.out
   clear HA
   simp only [impl_Reads.j0] at H
   have HC10 := Aside0.mk H
   clear H
   go_upto_if 21 with (fail)
   go_cut [4] (fun v4 wc => ∃ (kq : Nat) (x4_9 : Int), v4 = .int .i64 x4_9 ∧ Aside0 (impl_Reads.j1 kq ([] : List Int) x4_9 a0_0 a0_1 a0_2 a0_3 a0_4 a0_5 a0_6 l0_7 = some r) ∧ Aside0 (kq ≤ kj1) ∧ Aside0 (Kd.R (Kd.int .i64) 2 wc w.heap.size (fun _ => True) (.slice none 0 0) ([] : List Int)) ∧ Aside0 (wc.heap[gb241]? = some (.cells #[.int .i64 a0_0, .int .i64 a0_1, .int .i64 a0_2, .int .i64 a0_3, .int .i64 a0_4, .int .i64 a0_5, .string a0_6, (.slice A0_7 l0_7.length c0_7)] 87 (0, 0))) ∧ Aside0 (Below w.heap.size w wc))
   case first =>
    have H := HC10.out
    clear HC10
    by_cases c11 : x21_1 = true
    · subst c11
      have H1 : (impl_Reads.j1 kj1 ([] : List Int) (-1) a0_0 a0_1 a0_2 a0_3 a0_4 a0_5 a0_6 l0_7) = some r := by rw [if_pos rfl] at H; exact H
      clear H
      have H := H1
      clear H1
      have H' := Aside0.mk H
      clear H
      go_wp2
      go_meet
      case rel => exact ⟨_, ((-1)), sz_, H', ⟨by have := HJ1.out; first | omega | exact Nat.le_refl _⟩, ⟨by (with_reducible repeat (first | apply Kd.R_alloc | apply Kd.R_drewN | apply Kd.R_drew)); exact HO_3.out⟩, ⟨ kz⟩, ⟨ bz⟩⟩
    · replace c11 := Bool.eq_false_iff.mpr c11
      subst c11
      have H1 : (impl_Reads.j1 kj1 ([] : List Int) a0_4 a0_0 a0_1 a0_2 a0_3 a0_4 a0_5 a0_6 l0_7) = some r := by rw [if_neg (show ¬ (false = true) by decide)] at H; exact H
      clear H
      have H := H1
      clear H1
      have H' := Aside0.mk H
      clear H
      go_wp2
      go_meet
      case rel => exact ⟨_, (a0_4), sz_, H', ⟨by have := HJ1.out; first | omega | exact Nat.le_refl _⟩, ⟨by (with_reducible repeat (first | apply Kd.R_alloc | apply Kd.R_drewN | apply Kd.R_drew)); exact HO_3.out⟩, ⟨ kz⟩, ⟨ bz⟩⟩
   case rest =>
    clear HC10
    obtain ⟨kq, x4_9, rfl, HA, HJ9, HO_3, BK241, HB⟩ := hcut
    cases kq with
    | zero => exact absurd HA.out (by simp [impl_Reads.j1])
    | succ kj9 =>
     have H := HA.out
     clear HA
     simp only [impl_Reads.j1] at H
     obtain ⟨y242, hy242⟩ : ∃ y_ : List Int, y_ = (([a0_2, a0_3, x4_9] : List Int)) := ⟨_, rfl⟩
     replace H : (if y242.length + l0_7.length < 17592186044416 then ((some (y242 ++ l0_7 : List Int)).bind fun y245 => (impl_Reads.l0 kj9 ([] : List Int) y245 (y245.length : Int) 0)) else (none)) = some r := by first | (rw [hy242]; with_reducible exact H) | (have H2_ := (Option.bind_some _ _).symm.trans H; rw [hy242]; with_reducible exact H2_) | (have H2_ := (Option.bind_some _ _).symm.trans H; with_reducible exact H2_) | with_reducible exact H | (rw [hy242]; exact H) | exact H
     have Ny242 := Aside0.mk hy242
     clear hy242
     by_cases c12 : y242.length + l0_7.length < 17592186044416
     · rw [if_pos c12] at H
       have LMc12 := Aside0.mk c12
       clear c12
       obtain ⟨y245, hy245⟩ : ∃ y_ : List Int, y_ = (y242 ++ l0_7) := ⟨_, rfl⟩
       replace H : (impl_Reads.l0 kj9 ([] : List Int) y245 (y245.length : Int) 0) = some r := by first | (rw [hy245]; with_reducible exact H) | (have H2_ := (Option.bind_some _ _).symm.trans H; rw [hy245]; with_reducible exact H2_) | (have H2_ := (Option.bind_some _ _).symm.trans H; with_reducible exact H2_) | with_reducible exact H | (rw [hy245]; exact H) | exact H
       have Ny245 := Aside0.mk hy245
       clear hy245
       have H' := Aside0.mk H
       clear H
       have hcz13_0 : wc.cell? ⟨gb241, 0, none⟩ = some (.int .i64 a0_0) := (blk_cell BK241.out 0).trans rfl
       have hcz13_1 : wc.cell? ⟨gb241, 1, none⟩ = some (.int .i64 a0_1) := (blk_cell BK241.out 1).trans rfl
       have hcz13_2 : wc.cell? ⟨gb241, 2, none⟩ = some (.int .i64 a0_2) := (blk_cell BK241.out 2).trans rfl
       have hcz13_3 : wc.cell? ⟨gb241, 3, none⟩ = some (.int .i64 a0_3) := (blk_cell BK241.out 3).trans rfl
       have hcz13_4 : wc.cell? ⟨gb241, 4, none⟩ = some (.int .i64 a0_4) := (blk_cell BK241.out 4).trans rfl
       have hcz13_5 : wc.cell? ⟨gb241, 5, none⟩ = some (.int .i64 a0_5) := (blk_cell BK241.out 5).trans rfl
       have hcz13_6 : wc.cell? ⟨gb241, 6, none⟩ = some (.string a0_6) := (blk_cell BK241.out 6).trans rfl
       have hcz13_7 : wc.cell? ⟨gb241, 7, none⟩ = some (.slice A0_7 l0_7.length c0_7) := (blk_cell BK241.out 7).trans rfl
       go_wp2_with (first | ((with_reducible refine gate_dst (N := 27) rfl ?_); refine Kd.R_lit (Kd.int .i64) _ 2 ?hg (N := 27) ?hd (xs := ([a0_2, a0_3, x4_9] : List Int)) (inner := [.int .i64 a0_2, .int .i64 a0_3, .int .i64 x4_9]) (ok := fun _ => True) (okp := fun _ => True) ?hr ?hp (fun _ hk => hk) trivial (Below.refl _ _) (Nat.le_refl _) (by simp) ?_; (case hd => rfl); (case hg => rfl); (case hr => first | (go_simp; done) | (go_simp; rfl)); (case hp => exact (Reps.one (show Kd.M (Kd.int .i64) _ _ _ a0_2 [.int .i64 a0_2] from rfl) (Reps.one (show Kd.M (Kd.int .i64) _ _ _ a0_3 [.int .i64 a0_3] from rfl) (Reps.one (show Kd.M (Kd.int .i64) _ _ _ x4_9 [.int .i64 x4_9] from rfl) (Reps.none _ _))))); intro v243 w14 ho15 hb hg_ hnew_; clear hg_ hnew_; (first | rw [← Ny242.out] at ho15 | (simp only [Int.reduceToNat] at ho15; rw [← Ny242.out] at ho15)); have n0_ := Aside0.mk (Kd.R_elder' (rz HO_3.out) (Kd.R_base ho15) hb); have n1_ := Aside0.mk (Kd.R_lower (Kd.R_new' ho15 (Kd.R_lt (rz HO_3.out))) (below_size bz)); have n2_ := Aside0.mk (blk_below (g := gb241) (o := .cells #[.int .i64 a0_0, .int .i64 a0_1, .int .i64 a0_2, .int .i64 a0_3, .int .i64 a0_4, .int .i64 a0_5, .string a0_6, .slice A0_7 l0_7.length c0_7] 87 (0, 0)) kz hb); have n3_ := Aside0.mk (below_step bz hb); clear HO_3; clear BK241; clear HB; have HO_3 := n0_; have HO244 := n1_; have BK241 := n2_; have HB := n3_; clear n0_ n1_ n2_ n3_; clear hb ho15; have hcz16_0 : w14.cell? ⟨gb241, 0, none⟩ = some (.int .i64 a0_0) := (blk_cell BK241.out 0).trans rfl; have hcz16_1 : w14.cell? ⟨gb241, 1, none⟩ = some (.int .i64 a0_1) := (blk_cell BK241.out 1).trans rfl; have hcz16_2 : w14.cell? ⟨gb241, 2, none⟩ = some (.int .i64 a0_2) := (blk_cell BK241.out 2).trans rfl; have hcz16_3 : w14.cell? ⟨gb241, 3, none⟩ = some (.int .i64 a0_3) := (blk_cell BK241.out 3).trans rfl; have hcz16_4 : w14.cell? ⟨gb241, 4, none⟩ = some (.int .i64 a0_4) := (blk_cell BK241.out 4).trans rfl; have hcz16_5 : w14.cell? ⟨gb241, 5, none⟩ = some (.int .i64 a0_5) := (blk_cell BK241.out 5).trans rfl; have hcz16_6 : w14.cell? ⟨gb241, 6, none⟩ = some (.string a0_6) := (blk_cell BK241.out 6).trans rfl; have hcz16_7 : w14.cell? ⟨gb241, 7, none⟩ = some (.slice A0_7 l0_7.length c0_7) := (blk_cell BK241.out 7).trans rfl; have hfz16_0 := blk_frozen BK241.out 0; have hfz16_1 := blk_frozen BK241.out 1; have hfz16_2 := blk_frozen BK241.out 2; have hfz16_3 := blk_frozen BK241.out 3; have hfz16_4 := blk_frozen BK241.out 4; have hfz16_5 := blk_frozen BK241.out 5; have hfz16_6 := blk_frozen BK241.out 6; have hfz16_7 := blk_frozen BK241.out 7) | ((with_reducible refine gate_builtin (b := .append) (xs := #[.tmp 27, .tmp 29]) rfl ?_); at_builtin; refine Kd.R_append_rows (Kd.int .i64) (w0 := w) w.heap.size rfl (.tmp 27) (.tmp 29) 22 2 (.int .i64 0) 8 rfl Try.underlying22 info2 rfl (by decide) (by omega) v243 y242 l0_7 _ _ _ (fun k_ => some k_ ≠ (.slice none 0 0 : Value).ownBlock) (fun _ => False) rfl rfl ?aO ?aR (fun _ _ h => h) (fun _ h => h.elim) ?aF ?aB ?aS ?aL ?_; (case aR => exact cz HR0_7.out); (case aB => exact bz); (case aF => exact (fun k_ hk => Kd.fresh' (Kd.R_lt (rz HO_3.out)) k_ hk)); (case aO => exact (by (with_reducible repeat (first | apply Kd.R_alloc | apply Kd.R_drewN | apply Kd.R_drew)); exact Kd.R_mono HO244.out (fun _ hk => hk.2))); (case aS => exact (below_size bz)); (case aL => have := LMc12.out; omega); intro v246 w17 ho hb hg hat; rw [← Ny245.out] at ho; have n0_ := Aside0.mk (Kd.R_after (ok := (fun _ => True)) (rz HO_3.out) hg hat); have n1_ := Aside0.mk (blk_grown (g := gb241) (o := .cells #[.int .i64 a0_0, .int .i64 a0_1, .int .i64 a0_2, .int .i64 a0_3, .int .i64 a0_4, .int .i64 a0_5, .string a0_6, .slice A0_7 l0_7.length c0_7] 87 (0, 0)) kz hg (Kd.R_ne HO244.out BK241.out (by decide))); have n2_ := Aside0.mk (hb); have n3_ := Aside0.mk (ho); clear HO_3; clear BK241; clear HB; clear HO244; have HO_3 := n0_; have BK241 := n1_; have HB := n2_; have HO247 := n3_; clear n0_ n1_ n2_ n3_; clear ho hb hg hat; obtain ⟨Ao18, co18, eo18⟩ := Kd.R_slice HO247.out; subst eo18))
       go_loopg [3, 32] kj9 (fun kq v3 v32 w' => ∃ (x3_3 : List Int) (x32_3 : Int), v32 = .int .i64 x32_3 ∧ Aside0 (impl_Reads.l0 kq x3_3 y245 (y245.length : Int) x32_3 = some r) ∧ Aside0 (kq ≤ kj9) ∧ Aside0 (Kd.R (Kd.int .i64) 2 w' w.heap.size (fun k_ => some k_ ≠ ((.slice Ao18 y245.length co18) : Value).ownBlock) v3 x3_3) ∧ Aside0 (Kd.R (Kd.int .i64) 2 w' w.heap.size (fun k_ => some k_ ≠ (v3 : Value).ownBlock) (.slice Ao18 y245.length co18) y245) ∧ Aside0 (w'.heap[gb241]? = some (.cells #[.int .i64 a0_0, .int .i64 a0_1, .int .i64 a0_2, .int .i64 a0_3, .int .i64 a0_4, .int .i64 a0_5, .string a0_6, (.slice A0_7 l0_7.length c0_7)] 87 (0, 0))) ∧ Aside0 (Below w.heap.size w w'))
       case atStart => exact ⟨(([] : List Int)), (0), sz_, H', ⟨Nat.le_refl _⟩, ⟨by (with_reducible repeat (first | apply Kd.R_alloc | apply Kd.R_drewN | apply Kd.R_drew)); exact Kd.R_mono HO_3.out (fun _ hk => hk.2)⟩, ⟨by (with_reducible repeat (first | apply Kd.R_alloc | apply Kd.R_drewN | apply Kd.R_drew)); exact HO247.out⟩, ⟨ kz⟩, ⟨ bz⟩⟩
       case round =>
        clear H'
        obtain ⟨x3_3, x32_3, rfl, HA, HK3, HO_3, HO_30, BK241, HB⟩ := hrel
        cases gk with
        | zero => exact absurd HA.out (by simp [impl_Reads.l0])
        | succ k3 =>
         have H := HA.out
         clear HA
         simp only [impl_Reads.l0] at H
         by_cases c19 : x32_3 < (y245.length : Int)
         · rw [if_pos c19] at H
           have c19b0 : decide (x32_3 < (y245.length : Int)) = true := decide_eq_true c19
           clear c19
           by_cases c20 : 0 ≤ x32_3
           · rw [if_pos c20] at H
             have c20b0 : decide (0 ≤ x32_3) = true := decide_eq_true c20
             clear c20
             by_cases c21 : x32_3 < (y245.length : Int)
             · rw [if_pos c21] at H
               have c21b0 : decide (x32_3 < (y245.length : Int)) = true := decide_eq_true c21
               clear c21
               by_cases c22 : (rd y245 x32_3) ≥ 0
               · rw [if_pos c22] at H
                 have c22b0 : decide (0 ≤ (rd y245 x32_3)) = true := decide_eq_true c22
                 clear c22
                 by_cases c23 : x3_3.length < 17592186044416
                 · rw [if_pos c23] at H
                   have LMc23 := Aside0.mk c23
                   clear c23
                   obtain ⟨y249, hy249⟩ : ∃ y_ : List Int, y_ = (x3_3 ++ [rd y245 x32_3]) := ⟨_, rfl⟩
                   replace H : (impl_Reads.l0 k3 y249 y245 (y245.length : Int) (wrap64 (x32_3 + 1))) = some r := by first | (rw [hy249]; with_reducible exact H) | (have H2_ := (Option.bind_some _ _).symm.trans H; rw [hy249]; with_reducible exact H2_) | (have H2_ := (Option.bind_some _ _).symm.trans H; with_reducible exact H2_) | with_reducible exact H | (rw [hy249]; exact H) | exact H
                   have Ny249 := Aside0.mk hy249
                   clear hy249
                   have H' := Aside0.mk H
                   clear H
                   have p248 : 0 ≤ (x32_3 : Int) := of_decide_eq_true az
                   have q248 : x32_3 < (y245.length : Int) := of_decide_eq_true az
                   obtain ⟨ad248, e248, hx248_0⟩ := Kd.at_int (Kd.R_reads' HO_30.out).2.2 x32_3 p248 q248
                   cases e248
                   replace p248 := eq_true p248
                   replace q248 := eq_true q248
                   go_wp2_with (first | ((with_reducible refine gate_builtin (b := .append) (xs := #[.tmp 38, .tmp 40]) rfl ?_); at_builtin; refine Kd.R_append (Kd.int .i64) (w0 := w) w.heap.size rfl (.tmp 38) (.tmp 40) 22 2 (.int .i64 0) 8 rfl Try.underlying22 info2 rfl (by decide) (by omega) u3 x3_3 (rd y245 x32_3) [.int .i64 (rd y245 x32_3)] (fun k_ => some k_ ≠ (.slice (some ad248) y245.length co18 : Value).ownBlock) (fun _ => False) rfl rfl ?aP (fun _ hk => hk.elim) ?aF ?aO ?aB ?aS ?aL ?_; (case aP => exact rfl); (case aB => exact bz); (case aF => exact (fun k_ hk => Kd.fresh' (Kd.R_lt (rz HO_30.out)) k_ hk)); (case aO => exact (rz HO_3.out)); (case aS => exact (below_size bz)); (case aL => have := LMc23.out; omega); intro v250 w24 ho hb hg hat; rw [← Ny249.out] at ho; have n0_ := Aside0.mk (Kd.R_after (ok := (fun _ => True)) (by (with_reducible repeat (first | apply Kd.R_alloc | apply Kd.R_drewN | apply Kd.R_drew)); exact Kd.R_mono HO_30.out (fun _ hk => ⟨trivial, hk⟩)) hg hat); have n1_ := Aside0.mk (blk_grown (g := gb241) (o := .cells #[.int .i64 a0_0, .int .i64 a0_1, .int .i64 a0_2, .int .i64 a0_3, .int .i64 a0_4, .int .i64 a0_5, .string a0_6, .slice A0_7 l0_7.length c0_7] 87 (0, 0)) kz hg (Kd.R_ne HO_3.out BK241.out (by decide))); have n2_ := Aside0.mk (hb); have n3_ := Aside0.mk (ho); clear HO_30; clear BK241; clear HB; clear HO_3; have HO_30 := n0_; have BK241 := n1_; have HB := n2_; have HO251 := n3_; clear n0_ n1_ n2_ n3_; clear ho hb hg hat))
                   go_roundg k3
                   case measure => have := HJ1.out; have := HJ9.out; have := HK3.out; omega
                   case rel => exact ⟨(y249), (wrap64 (x32_3 + 1)), sz_, H', ⟨by have := HJ1.out; have := HJ9.out; have := HK3.out; omega⟩, ⟨by (with_reducible repeat (first | apply Kd.R_alloc | apply Kd.R_drewN | apply Kd.R_drew)); exact HO251.out⟩, ⟨by (with_reducible repeat (first | apply Kd.R_alloc | apply Kd.R_drewN | apply Kd.R_drew)); exact Kd.R_mono HO_30.out (fun _ hk => hk.2)⟩, ⟨ kz⟩, ⟨ bz⟩⟩
                 · rw [if_neg c23] at H
                   exact absurd H (by simp)
               · rw [if_neg c22] at H
                 have c22b0 : decide (0 ≤ (rd y245 x32_3)) = false := decide_eq_false c22
                 clear c22
                 have H' := Aside0.mk H
                 clear H
                 have p248 : 0 ≤ (x32_3 : Int) := of_decide_eq_true az
                 have q248 : x32_3 < (y245.length : Int) := of_decide_eq_true az
                 obtain ⟨ad248, e248, hx248_0⟩ := Kd.at_int (Kd.R_reads' HO_30.out).2.2 x32_3 p248 q248
                 cases e248
                 replace p248 := eq_true p248
                 replace q248 := eq_true q248
                 go_wp2
                 go_roundg k3
                 case measure => have := HJ1.out; have := HJ9.out; have := HK3.out; omega
                 case rel => exact ⟨(x3_3), (wrap64 (x32_3 + 1)), sz_, H', ⟨by have := HJ1.out; have := HJ9.out; have := HK3.out; omega⟩, ⟨by (with_reducible repeat (first | apply Kd.R_alloc | apply Kd.R_drewN | apply Kd.R_drew)); exact HO_3.out⟩, ⟨by (with_reducible repeat (first | apply Kd.R_alloc | apply Kd.R_drewN | apply Kd.R_drew)); exact HO_30.out⟩, ⟨ kz⟩, ⟨ bz⟩⟩
             · rw [if_neg c21] at H
               exact absurd H (by simp)
           · rw [if_neg c20] at H
             exact absurd H (by simp)
         · rw [if_neg c19] at H
           have c19b0 : decide (x32_3 < (y245.length : Int)) = false := decide_eq_false c19
           clear c19
           obtain rfl := Option.some.inj H
           go_wp2
           go_ret
           exact ⟨_, by first | rfl | (simp [errW_none, errW_some] <;> rfl) | (simp [*, errW_none, errW_some] <;> rfl), by (with_reducible repeat (first | apply Kd.R_alloc | apply Kd.R_drewN | apply Kd.R_drew)); exact Kd.R_mono HO_3.out (fun _ hk => trivial), bz⟩
     · rw [if_neg c12] at H
       exact absurd H (by simp)

set_option linter.unusedVariables false
set_option linter.unusedSimpArgs false

def impl_stops.f (a0 : Int) : Option (Bool) := if a0 = 23 then (some true) else (if a0 = 62 then (some true) else (some (a0 == 29)))
set_option maxHeartbeats 8000000 in
set_option maxRecDepth 100000 in
theorem impl_stops.calls (a0 : Int) (r : Bool) (w : World) (h : impl_stops.f a0 = some r) :
 Calls Try.prog 130 #[.int .i64 a0] w fun e w' => e = .returned (.bool r) ∧ Drawn0 w w' := by
 have H : (if a0 = 23 then (some true) else (if a0 = 62 then (some true) else (some (a0 == 29)))) = some r := h
 clear h
 by_cases c2 : a0 = 23
 · rw [if_pos c2] at H
   have c2b0 : (a0 == 23) = true := beq_iff_eq.mpr c2
   have c2b1 : (a0 != 23) = false := bne_eq_false_iff_eq.mpr c2
   clear c2
   obtain rfl := Option.some.inj H
   go_enter Try.func130, Try.ntmps130
   go_wp2
   go_ret
   exact ⟨by first | rfl | (simp; done) | (simp [*]; done), by repeat (first | exact Drawn0.refl _ | apply Drawn0.step)⟩
 · rw [if_neg c2] at H
   have c2b0 : (a0 == 23) = false := beq_eq_false_iff_ne.mpr c2
   have c2b1 : (a0 != 23) = true := bne_iff_ne.mpr c2
   by_cases c3 : a0 = 62
   · rw [if_pos c3] at H
     have c3b0 : (a0 == 62) = true := beq_iff_eq.mpr c3
     have c3b1 : (a0 != 62) = false := bne_eq_false_iff_eq.mpr c3
     clear c3
     obtain rfl := Option.some.inj H
     go_enter Try.func130, Try.ntmps130
     go_wp2
     go_ret
     exact ⟨by first | rfl | (simp; done) | (simp [*]; done), by repeat (first | exact Drawn0.refl _ | apply Drawn0.step)⟩
   · rw [if_neg c3] at H
     have c3b0 : (a0 == 62) = false := beq_eq_false_iff_ne.mpr c3
     have c3b1 : (a0 != 62) = true := bne_iff_ne.mpr c3
     obtain rfl := Option.some.inj H
     go_enter Try.func130, Try.ntmps130
     go_wp2
     go_ret
     exact ⟨by first | rfl | (simp; done) | (simp [*]; done), by repeat (first | exact Drawn0.refl _ | apply Drawn0.step)⟩

set_option linter.unusedVariables false
set_option linter.unusedSimpArgs false

def impl_jumps.f (a0 : Int) : Option (Bool) := if a0 = 23 then (some true) else (if a0 = 24 then (some true) else (some (a0 == 25)))
set_option maxHeartbeats 8000000 in
set_option maxRecDepth 100000 in
theorem impl_jumps.calls (a0 : Int) (r : Bool) (w : World) (h : impl_jumps.f a0 = some r) :
 Calls Try.prog 76 #[.int .i64 a0] w fun e w' => e = .returned (.bool r) ∧ Drawn0 w w' := by
 have H : (if a0 = 23 then (some true) else (if a0 = 24 then (some true) else (some (a0 == 25)))) = some r := h
 clear h
 by_cases c2 : a0 = 23
 · rw [if_pos c2] at H
   have c2b0 : (a0 == 23) = true := beq_iff_eq.mpr c2
   have c2b1 : (a0 != 23) = false := bne_eq_false_iff_eq.mpr c2
   clear c2
   obtain rfl := Option.some.inj H
   go_enter Try.func76, Try.ntmps76
   go_wp2
   go_ret
   exact ⟨by first | rfl | (simp; done) | (simp [*]; done), by repeat (first | exact Drawn0.refl _ | apply Drawn0.step)⟩
 · rw [if_neg c2] at H
   have c2b0 : (a0 == 23) = false := beq_eq_false_iff_ne.mpr c2
   have c2b1 : (a0 != 23) = true := bne_iff_ne.mpr c2
   by_cases c3 : a0 = 24
   · rw [if_pos c3] at H
     have c3b0 : (a0 == 24) = true := beq_iff_eq.mpr c3
     have c3b1 : (a0 != 24) = false := bne_eq_false_iff_eq.mpr c3
     clear c3
     obtain rfl := Option.some.inj H
     go_enter Try.func76, Try.ntmps76
     go_wp2
     go_ret
     exact ⟨by first | rfl | (simp; done) | (simp [*]; done), by repeat (first | exact Drawn0.refl _ | apply Drawn0.step)⟩
   · rw [if_neg c3] at H
     have c3b0 : (a0 == 24) = false := beq_eq_false_iff_ne.mpr c3
     have c3b1 : (a0 != 24) = true := bne_iff_ne.mpr c3
     obtain rfl := Option.some.inj H
     go_enter Try.func76, Try.ntmps76
     go_wp2
     go_ret
     exact ⟨by first | rfl | (simp; done) | (simp [*]; done), by repeat (first | exact Drawn0.refl _ | apply Drawn0.step)⟩

end Go.Proofs.Ythegbhfoleiegaa.All

/- Maps of bools that a call makes: as sets of numbers. -/
namespace Go.Proofs.Ythegbhfoleiegaa.All
open Go.RowKit Go.Proofs.YthegbhfoleiegaaW.PrintWords Go.Proofs.YthegbhfoleiegaaW.PrintLast Go.Proofs.YthegbhfoleiegaaW.PrintMore
set_option linter.unusedVariables false
set_option linter.unusedSimpArgs false
open Go.Maps (Keyed)
theorem plainElem_bool_inv {H : Type} {P : Program} {e : TypeId} (he : P.underlying e = some .bool) {v : Value} {z : DataW H × List MemPlace} (h : plainElem P e v = some z) : ∃ x, v = .bool x ∧ z = (.lit (.bool x), []) := by
  unfold plainElem at h
  rw [he] at h
  cases v <;> simp at h
  exact ⟨_, rfl, h.symm⟩
/-- Block b is a map of at most n entries from int64 (type k) to bool (type e); S is what is told of a number. -/
def IsSet (P : Program) (k e : TypeId) (w : World) (b n : Nat) (S : Int → Bool) : Prop :=
  ∃ D : DataW Unit, w.ownsMap P k (plainElem P e) b n D ∧ ∀ x, (Lit.int .i64 x).wf = true → D.atKey (.int .i64 x) (.lit (.bool false)) = .lit (.bool (S x))
section
variable {P : Program} {k e : TypeId} {w w1 : World} {b n : Nat} {S : Int → Bool}
theorem IsSet.made (w : World) (P : Program) (k e : TypeId) : IsSet P k e (w.alloc (.map #[] 0)) w.heap.size 0 (fun _ => false) :=
  ⟨.map [], World.ownsMap_made w P k _, fun x _ => by simp [DataW.atKey]⟩
theorem IsSet.kept {row : Option Nat} (h : IsSet P k e w b n S) (hg : w.grownBy w1 row) (hne : some b ≠ row) : IsSet P k e w1 b n S := by
  obtain ⟨D, h1, h2⟩ := h
  exact ⟨D, h1.kept hg hne, h2⟩
theorem IsSet.below (h : IsSet P k e w b n S) (hb : Below w.heap.size w w1) : IsSet P k e w1 b n S := h.kept (grown_of_below hb none) (by simp)
theorem IsSet.alloc (h : IsSet P k e w b n S) (o : Obj) : IsSet P k e (w.alloc o) b n S := h.below (below_alloc (Below.refl _ _) o)
theorem IsSet.drewN (h : IsSet P k e w b n S) (m : Nat) : IsSet P k e (w.drewN m) b n S := h
theorem IsSet.drew (h : IsSet P k e w b n S) : IsSet P k e w.drew b n S := h
theorem IsSet.lt (h : IsSet P k e w b n S) : b < w.heap.size := by obtain ⟨D, h1, _⟩ := h; exact h1.lt
theorem IsSet.mono (h : IsSet P k e w b n S) {n' : Nat} (hn : n ≤ n') : IsSet P k e w b n' S := by obtain ⟨D, h1, h2⟩ := h; exact ⟨D, h1.mono hn, h2⟩
theorem IsSet.congr {S' : Int → Bool} (h : IsSet P k e w b n S) (he : ∀ x, S' x = S x) : IsSet P k e w b n S' := by obtain ⟨D, h1, h2⟩ := h; exact ⟨D, h1, fun x hx => by rw [he]; exact h2 x hx⟩
theorem IsSet.look {t : TypeId} (h : IsSet P k e w b n S) (hk : P.underlying k = some (.int .i64)) (ht : P.underlying t = some (.map k e)) (he : P.underlying e = some .bool) (hz : (zeroValue e).run P w = .ok (.bool false) w) {x : Int} (hx : (Lit.int .i64 x).wf = true) :
    (Instr.lookup t (.map (some b)) (.int .i64 x) false).run P w = .ok (.bool (S x)) w := by
  obtain ⟨D, h1, h2⟩ := h
  obtain ⟨v, ps, hrun, hv⟩ := h1.lookup (Maps.int_keyed hk) ht hz (plainElem_bool he false) (Maps.keyOf_int_mk hk hx)
  obtain ⟨c, rfl, hc⟩ := plainElem_bool_inv he hv
  simp only [Prod.mk.injEq] at hc
  have := h2 x hx
  rw [hc.1] at this
  injection this with this
  injection this with this
  rw [this] at hrun
  exact hrun
theorem IsSet.put {t : TypeId} (h : IsSet P k e w b n S) (hk : P.underlying k = some (.int .i64)) (ht : P.underlying t = some (.map k e)) (he : P.underlying e = some .bool) (hn : n < maxLen) {x : Int} (hx : (Lit.int .i64 x).wf = true) (v : Bool) :
    ∃ w', (Instr.mapUpdate t (.map (some b)) (.int .i64 x) (.bool v)).run P w = .ok () w' ∧ IsSet P k e w' b (n + 1) (fun y => if y = x then v else S y) ∧ w.grownBy w' (some b) := by
  obtain ⟨D, h1, h2⟩ := h
  have hm := h1.isMap
  obtain ⟨w', hrun, h3, hg⟩ := h1.update (Maps.int_keyed hk) ht hn (Maps.keyOf_int_mk hk hx) (plainElem_bool he v)
  refine ⟨w', hrun, ⟨_, h3, fun y hy => ?_⟩, hg⟩
  by_cases hxy : y = x
  · subst hxy
    rw [Maps.atKey_put_same hm (by simp [WideAt.IsKeyLit])]
    simp
  · rw [Maps.atKey_put_other (by simpa using hxy), h2 y hy]
    simp [hxy]
end
section
variable {P : Program} {ops : Array Oper} {rest : List Oper} {o : Oper} {a : Act} {Q : Exit → Act → World → Prop} {w : World}
end
end Go.Proofs.Ythegbhfoleiegaa.All

/- Maps of true alone, with whole numbers as keys, that a call makes: as lists of keys; and the loops over them. -/
namespace Go.Proofs.Ythegbhfoleiegaa.All
open Go.RowKit Go.Proofs.YthegbhfoleiegaaW.PrintWords Go.Proofs.YthegbhfoleiegaaW.PrintLast Go.Proofs.YthegbhfoleiegaaW.PrintMore
set_option linter.unusedVariables false
set_option linter.unusedSimpArgs false
open Go.Maps (Keyed)
/-- The map reads as the keys ks, each with true. -/
def KeysD (D : DataW Unit) (ks : List Int) : Prop := Maps.size D = ks.length ∧ ks.Nodup ∧ (∀ x, Maps.has D (.int .i64 x) = decide (x ∈ ks)) ∧ (∀ x ∈ ks, ∀ z, D.atKey (.int .i64 x) z = .lit (.bool true)) ∧ ∀ x ∈ ks, (Lit.int .i64 x).wf = true
def IsKeys (P : Program) (k e : TypeId) (w : World) (b : Nat) (ks : List Int) : Prop := ∃ D : DataW Unit, w.ownsMap P k (plainElem P e) b ks.length D ∧ KeysD D ks
/-- The loop over map b (iterator r) is under way; the keys lf are still to come. -/
def KRange (P : Program) (k e : TypeId) (w : World) (b r : Nat) (ks lf : List Int) : Prop :=
  ∃ (D : DataW Unit) (left : Lit → Bool) (cnt : Nat), w.ranges P k (plainElem P e) b r ks.length D left cnt ∧ KeysD D ks ∧ (∀ x, left (.int .i64 x) = decide (x ∈ lf))
def insK (ks : List Int) (x : Int) : List Int := if x ∈ ks then ks else ks ++ [x]
theorem insK_mem (ks : List Int) (x y : Int) : y ∈ insK ks x ↔ y ∈ ks ∨ y = x := by
  unfold insK; split
  · rename_i h; exact ⟨.inl, fun h' => h'.elim id (fun e => e ▸ h)⟩
  · simp
theorem insK_nodup {ks : List Int} (h : ks.Nodup) (x : Int) : (insK ks x).Nodup := by
  unfold insK; split
  · exact h
  · rename_i hn
    rw [List.nodup_append]
    exact ⟨h, by simp, fun a ha b hb => by rw [List.mem_singleton.1 hb]; rintro rfl; exact hn ha⟩
theorem insK_len (ks : List Int) (x : Int) : (insK ks x).length = if x ∈ ks then ks.length else ks.length + 1 := by unfold insK; split <;> simp
theorem insK_le (ks : List Int) (x : Int) : (insK ks x).length ≤ ks.length + 1 := by rw [insK_len]; split <;> omega
theorem int_sameKey (x y : Int) : (Lit.int .i64 y).sameKey (.int .i64 x) = decide (y = x) := by
  by_cases h : y = x
  · subst h; simp [Lit.sameKey]
  · rw [Maps.sameKey_ne (by intro e; exact h (by injection e)), decide_eq_false h]
theorem KeysD.perm {D : DataW Unit} {ks ks' : List Int} (h : KeysD D ks) (hp : ks.Perm ks') : KeysD D ks' :=
  ⟨h.1.trans hp.length_eq, hp.nodup_iff.1 h.2.1, fun x => by rw [h.2.2.1 x]; exact decide_eq_decide.2 hp.mem_iff, fun x hx => h.2.2.2.1 x (hp.mem_iff.2 hx), fun x hx => h.2.2.2.2 x (hp.mem_iff.2 hx)⟩
section
variable {P : Program} {k e : TypeId} {w w1 : World} {b r : Nat} {ks ks' lf : List Int}
theorem ownsMap_tight {R : Value → Option (DataW Unit × List MemPlace)} {n : Nat} {D : DataW Unit} (h : w.ownsMap P k R b n D) : w.ownsMap P k R b (Maps.size D) D := by
  obtain ⟨es, clock, hb, F, _, hD⟩ := h
  refine ⟨es, clock, hb, F, ?_, hD⟩
  rw [hD, Maps.size_eq, length_read]
  exact Nat.le_refl _
theorem IsKeys.nodup (h : IsKeys P k e w b ks) : ks.Nodup := by obtain ⟨_, _, h⟩ := h; exact h.2.1
theorem IsKeys.wf (h : IsKeys P k e w b ks) : ∀ x ∈ ks, (Lit.int .i64 x).wf = true := by obtain ⟨_, _, h⟩ := h; exact h.2.2.2.2
theorem IsKeys.perm (h : IsKeys P k e w b ks) (hp : ks.Perm ks') : IsKeys P k e w b ks' := by
  obtain ⟨D, h1, h2⟩ := h
  exact ⟨D, by rw [← hp.length_eq]; exact h1, h2.perm hp⟩
theorem IsKeys.same (h : IsKeys P k e w b ks) (hn : ks'.Nodup) (hm : ∀ x, x ∈ ks ↔ x ∈ ks') : IsKeys P k e w b ks' := h.perm ((List.perm_ext_iff_of_nodup h.nodup hn).2 hm)
theorem IsKeys.made (w : World) (P : Program) (k e : TypeId) : IsKeys P k e (w.alloc (.map #[] 0)) w.heap.size [] :=
  ⟨.map [], World.ownsMap_made w P k _, rfl, List.nodup_nil, (fun x => by simp [Maps.has_eq]), (fun x hx => by cases hx), (fun x hx => by cases hx)⟩
theorem IsKeys.kept {row : Option Nat} (h : IsKeys P k e w b ks) (hg : w.grownBy w1 row) (hne : some b ≠ row) : IsKeys P k e w1 b ks := by
  obtain ⟨D, h1, h2⟩ := h
  exact ⟨D, h1.kept hg hne, h2⟩
theorem IsKeys.below (h : IsKeys P k e w b ks) (hb : Below w.heap.size w w1) : IsKeys P k e w1 b ks := h.kept (grown_of_below hb none) (by simp)
theorem IsKeys.alloc (h : IsKeys P k e w b ks) (o : Obj) : IsKeys P k e (w.alloc o) b ks := h.below (below_alloc (Below.refl _ _) o)
theorem IsKeys.drewN (h : IsKeys P k e w b ks) (m : Nat) : IsKeys P k e (w.drewN m) b ks := h
theorem IsKeys.drew (h : IsKeys P k e w b ks) : IsKeys P k e w.drew b ks := h
theorem IsKeys.lt (h : IsKeys P k e w b ks) : b < w.heap.size := by obtain ⟨D, h1, _⟩ := h; exact h1.lt
theorem KRange.keys (h : KRange P k e w b r ks lf) : IsKeys P k e w b ks := by obtain ⟨D, _, _, h1, h2, _⟩ := h; exact ⟨D, h1.owns, h2⟩
theorem KRange.kept {row : Option Nat} (h : KRange P k e w b r ks lf) (hg : w.grownBy w1 row) (hb : some b ≠ row) (hr : some r ≠ row) : KRange P k e w1 b r ks lf := by
  obtain ⟨D, left, cnt, h1, h2, h3⟩ := h
  exact ⟨D, left, cnt, h1.kept hg hb hr, h2, h3⟩
theorem KRange.left_kept {row : Option Nat} (h : KRange P k e w b r ks lf) (hg : w.grownBy w1 row) (hb : some b ≠ row) (hr : some r ≠ row) : w1.rangeLeft b r = w.rangeLeft b r := by
  obtain ⟨D, left, cnt, h1, h2, h3⟩ := h
  rw [(h1.kept hg hb hr).left_eq, h1.left_eq]
theorem KRange.lt (h : KRange P k e w b r ks lf) : r < w.heap.size := by obtain ⟨D, _, _, h1, _⟩ := h; exact h1.lt
end
section
variable {P : Program} {ops : Array Oper} {rest : List Oper} {o : Oper} {a : Act} {Q : Exit → Act → World → Prop} {w : World}
theorem wpList_range_keys (hg : o.guard = none) (m : Operand) (t : TypeId) (hop : o.op = Op.range t m) (k e : TypeId) (K : Keyed P k) (ht : P.underlying t = some (.map k e)) (b : Nat) (ks : List Int)
    (hm : a.eval m = .map (some b)) (h : IsKeys P k e w b ks)
    (hK : ∀ w', KRange P k e w' b w.heap.size ks ks → w.grownBy w' none → w'.heap.size = w.heap.size + 1 → wpList P ops Q rest (a.put o.dst (.pointer (some ⟨w.heap.size, 0, none⟩))) w') :
    wpList P ops Q (o :: rest) a w := by
  obtain ⟨D, h1, h2⟩ := h
  exact wpList_range_own w hg m t hop k e K ht _ b _ D hm h1 (fun w' hr hg hs => hK w' ⟨D, _, _, hr, h2, h2.2.2.1⟩ hg hs)
theorem IsKeys.range {P : Program} {k e : TypeId} {w : World} {b : Nat} {ks : List Int} (h : IsKeys P k e w b ks) (K : Keyed P k) {t : TypeId} (ht : P.underlying t = some (.map k e)) :
    ∃ w', (Instr.range t (.map (some b))).run P w = .ok (.pointer (some ⟨w.heap.size, 0, none⟩)) w' ∧ KRange P k e w' b w.heap.size ks ks ∧ w.grownBy w' none ∧ w'.heap.size = w.heap.size + 1 := by
  obtain ⟨D, h1, h2⟩ := h
  obtain ⟨w', hrun, r1, r2, r3⟩ := h1.range K ht
  exact ⟨w', hrun, ⟨D, _, _, r1, h2, h2.2.2.1⟩, r2, r3⟩
theorem wpList_next_keys (hg : o.guard = none) (it : Operand) (hop : o.op = Op.next it false) (k e : TypeId) (K : Keyed P k) (hk : P.underlying k = some (.int .i64)) (he : P.underlying e = some .bool)
    (b r : Nat) (ks lf : List Int) (hit : a.eval it = .pointer (some ⟨r, 0, none⟩)) (h : KRange P k e w b r ks lf) (hsub : ∀ x ∈ lf, x ∈ ks)
    (hDone : lf = [] → wpList P ops Q rest (a.put o.dst (.tuple #[.bool false])) w)
    (hMore : ∀ (x : Int) (w' : World), (Lit.int .i64 x).wf = true → x ∈ lf → KRange P k e w' b r ks (lf.filter fun y => !decide (y = x)) → w'.rangeLeft b r < w.rangeLeft b r →
      w.grownBy w' (some r) → w'.heap.size = w.heap.size → (Instr.entry (.pointer (some ⟨r, 0, none⟩))).run P w' = .ok (.tuple #[.int .i64 x, .bool true]) w' → wpList P ops Q rest (a.put o.dst (.tuple #[.bool true, .int .i64 x, .bool true])) w') :
    wpList P ops Q (o :: rest) a w := by
  obtain ⟨D, left, cnt, h1, h2, h3⟩ := h
  refine wpList_next_ranges w hg it hop k K (plainElem P e) (Value.int .i64) Value.bool (fun key kl hkey => by obtain ⟨x, rfl, _⟩ := Maps.keyOf_int_inv hk hkey; exact ⟨x, rfl⟩) (fun v y hv => by obtain ⟨c, rfl, _⟩ := plainElem_bool_inv he hv; exact ⟨c, rfl⟩)
    b r _ D left cnt hit h1 (fun _ hl => hDone ?_) (fun x c kl y w' cnt' hkey hlk hv hat hrg hlt hgr hsz hen => ?_)
  · refine List.eq_nil_iff_forall_not_mem.2 fun x hx => ?_
    have := h3 x
    rw [hl, decide_eq_true hx] at this
    cases this
  · obtain ⟨x', ex, rfl, hwx⟩ := Maps.keyOf_int_inv hk hkey
    cases ex
    obtain ⟨c', ec, rfl⟩ := plainElem_bool_inv he hv
    cases ec
    have hx : x ∈ lf := by rw [h3 x] at hlk; exact of_decide_eq_true hlk
    have hc : c = true := by
      have e1 := hat (.lit (.bool false))
      rw [h2.2.2.2.1 x (hsub x hx)] at e1
      injection e1 with e1
      injection e1 with e1
      exact e1.symm
    subst hc
    refine hMore x w' hwx hx ⟨D, _, cnt', hrg, h2, fun z => ?_⟩ (by rw [hrg.left_eq, h1.left_eq]; exact hlt) hgr hsz hen
    rw [h3 z, int_sameKey]
    by_cases h4 : z ∈ lf <;> by_cases h5 : z = x <;> simp [h4, h5]
theorem wpList_put_keys (hg : o.guard = none) (m x v : Operand) (t : TypeId) (hop : o.op = Op.mapUpdate t m x v) (k e : TypeId) (K : Keyed P k) (hk : P.underlying k = some (.int .i64)) (ht : P.underlying t = some (.map k e)) (he : P.underlying e = some .bool)
    (b : Nat) (ks : List Int) (hm : a.eval m = .map (some b)) (h : IsKeys P k e w b ks) (hn : ks.length < maxLen) (y : Int) (hx : a.eval x = .int .i64 y) (hv : a.eval v = .bool true) (hw : (Lit.int .i64 y).wf = true)
    (hK : ∀ w', IsKeys P k e w' b (insK ks y) → w.grownBy w' (some b) → wpList P ops Q rest (a.put o.dst undef) w') : wpList P ops Q (o :: rest) a w := by
  obtain ⟨D, h1, h2⟩ := h
  have hkey := K.key (Maps.keyOf_int_mk hk hw)
  have hsz : Maps.size (D.put (.int .i64 y) (.lit (.bool true))) = (insK ks y).length := by
    rw [Maps.size_put (h1.tidy K), h2.2.2.1 y, h2.1, insK_len]
    by_cases hy : y ∈ ks <;> simp [hy]
  refine wpList_mapUpdate_own w hg m x v t hop k e K ht _ b _ D hm h1 hn _ _ _ hx hv (Maps.keyOf_int_mk hk hw) (.lit (.bool true)) [] (plainElem_bool he true) (fun w' h3 h4 => hK w' ⟨D.put (.int .i64 y) (.lit (.bool true)), ?_, ?_⟩ h4)
  · rw [← hsz]; exact ownsMap_tight h3
  · refine ⟨hsz, insK_nodup h2.2.1 y, fun z => ?_, fun z hz u => ?_, fun z hz => ?_⟩
    · by_cases hzy : z = y
      · subst hzy
        rw [Maps.has_put_same h1.isMap hkey]
        exact (decide_eq_true ((insK_mem _ _ _).2 (.inr rfl))).symm
      · rw [Maps.has_put_other (by intro e; exact hzy (by injection e)), h2.2.2.1 z]
        exact decide_eq_decide.2 ⟨fun h' => (insK_mem _ _ _).2 (.inl h'), fun h' => ((insK_mem _ _ _).1 h').elim id (fun e => absurd e hzy)⟩
    · by_cases hzy : z = y
      · subst hzy
        exact Maps.atKey_put_same h1.isMap hkey _ _
      · rw [Maps.atKey_put_other (by intro e; exact hzy (by injection e))]
        exact h2.2.2.2.1 z (((insK_mem _ _ _).1 hz).elim id (fun e => absurd e hzy)) u
    · rcases (insK_mem _ _ _).1 hz with h' | rfl
      · exact h2.2.2.2.2 z h'
      · exact hw
end
theorem nodup_sub_len : ∀ (a b : List Int), a.Nodup → (∀ x ∈ a, x ∈ b) → a.length ≤ b.length
  | [], _, _, _ => Nat.zero_le _
  | x :: a, b, h, hs => by
    rw [List.nodup_cons] at h
    have hx : x ∈ b := hs x (by simp)
    have := nodup_sub_len a (b.erase x) h.2 (fun z hz => (List.mem_erase_of_ne (fun e => h.1 (by subst e; exact hz))).2 (hs z (by simp [hz])))
    rw [List.length_erase_of_mem hx] at this
    have hpos : 0 < b.length := List.length_pos_of_mem hx
    rw [List.length_cons]
    omega
theorem belowG {w W w' : World} {row : Option Nat} (h : Below w.heap.size w W) (hg : W.grownBy w' row) (hr : ∀ k, row = some k → w.heap.size ≤ k) : Below w.heap.size w w' := h.grown hg h.size hr
end Go.Proofs.Ythegbhfoleiegaa.All

/- impl.ahead and (*liveness).behind: maps of true alone, walked by hand. -/
namespace Go.Proofs.Ythegbhfoleiegaa.All
open Go.RowKit Go.Proofs.YthegbhfoleiegaaW.PrintWords Go.Proofs.YthegbhfoleiegaaW.PrintLast Go.Proofs.YthegbhfoleiegaaW.PrintMore
set_option linter.unusedVariables false
set_option linter.unusedSimpArgs false
def aheadK (dst : Int) (rs ks : List Int) : List Int := rs.foldl insK (ks.filter fun x => !decide (x = dst))
theorem foldIns_nodup (rs : List Int) : ∀ (ks : List Int), ks.Nodup → (rs.foldl insK ks).Nodup := by
  induction rs with
  | nil => intro ks h; exact h
  | cons a rs ih => intro ks h; exact ih _ (insK_nodup h a)
theorem foldIns_mem (rs : List Int) : ∀ (ks : List Int) (x : Int), x ∈ rs.foldl insK ks ↔ x ∈ ks ∨ x ∈ rs := by
  induction rs with
  | nil => intro ks x; simp
  | cons a rs ih => intro ks x; rw [List.foldl_cons, ih, insK_mem, List.mem_cons, or_assoc]
theorem foldIns_len (rs : List Int) : ∀ (ks : List Int), (rs.foldl insK ks).length ≤ ks.length + rs.length := by
  induction rs with
  | nil => intro ks; simp
  | cons a rs ih => intro ks; have h1 := ih (insK ks a); have h2 := insK_le ks a; rw [List.foldl_cons, List.length_cons]; omega
theorem aheadK_mem (dst : Int) (rs ks : List Int) (x : Int) : x ∈ aheadK dst rs ks ↔ (x ∈ ks ∧ x ≠ dst) ∨ x ∈ rs := by
  unfold aheadK
  rw [foldIns_mem, List.mem_filter]
  simp
theorem aheadK_nodup {ks : List Int} (h : ks.Nodup) (dst : Int) (rs : List Int) : (aheadK dst rs ks).Nodup := foldIns_nodup _ _ (h.filter _)
theorem own_geR {α : Type} {d : Kd α} {e : TypeId} {w : World} {base : Nat} {ok : Nat → Prop} {v : Value} {xs : List α} (h : d.R e w base ok v xs) (k : Nat) (hk : v.ownBlock = some k) : base ≤ k := (h.2.choose_spec.1.lt k hk).1
set_option maxHeartbeats 4000000 in
set_option maxRecDepth 100000 in
theorem ahead_calls (k : Nat) (a0_0 : Int) (a0_1 : Int) (a0_2 : Int) (a0_3 : Int) (a0_4 : Int) (a0_5 : Int) (a0_6 : ByteArray) (A0_7 : Option Addr) (c0_7 : Nat) (l0_7 : List Int) (b : Nat) (ks rs : List Int) (w : World)
    (hr0_7 : Kd.C (Kd.int .i64) w A0_7 l0_7.length l0_7) (hc0_7 : l0_7.length ≤ c0_7) (h : IsKeys Try.prog 2 4 w b ks) (hR : impl_Reads.f k a0_0 a0_1 a0_2 a0_3 a0_4 a0_5 a0_6 l0_7 = some rs) (hwf : ∀ x ∈ rs, (Lit.int .i64 x).wf = true)
    (hl : ks.length + rs.length < 1099511627776) :
    Calls Try.prog 123 #[.agg #[.int .i64 a0_0, .int .i64 a0_1, .int .i64 a0_2, .int .i64 a0_3, .int .i64 a0_4, .int .i64 a0_5, .string a0_6, .slice A0_7 l0_7.length c0_7], .map (some b)] w fun e w' =>
      ∃ b', e = .returned (.map (some b')) ∧ w.heap.size ≤ b' ∧ IsKeys Try.prog 2 4 w' b' (aheadK a0_1 rs ks) ∧ Below w.heap.size w w' := by
  have hb := h.lt
  have hn := h.nodup
  have HK := Aside0.mk h
  have HL := Aside0.mk hl
  have HR := Aside0.mk hR
  have HW := Aside0.mk hwf
  have HA := Aside0.mk hr0_7
  clear h hl hR hwf hr0_7
  have hu1 := Try.underlying87
  have hmm := @run_makeMap Try.prog
  go_enter Try.func123, Try.ntmps123
  go_wp2_with (first | (at_range; refine wpList_range_keys rfl _ 92 rfl 2 4 (Maps.int_keyed Try.underlying2) Try.underlying92 b ks rfl ((HK.out.alloc _).alloc _) ?_; intro w0 hrg0 hg0 hs0))
  have e1 : ((w.alloc (.cells #[.int .i64 a0_0, .int .i64 a0_1, .int .i64 a0_2, .int .i64 a0_3, .int .i64 a0_4, .int .i64 a0_5, .string a0_6, .slice A0_7 l0_7.length c0_7] 87)).alloc (.map #[] 0)).heap.size = w.heap.size + 2 := by simp
  have e2 : (w.alloc (.cells #[.int .i64 a0_0, .int .i64 a0_1, .int .i64 a0_2, .int .i64 a0_3, .int .i64 a0_4, .int .i64 a0_5, .string a0_6, .slice A0_7 l0_7.length c0_7] 87)).heap.size = w.heap.size + 1 := by simp
  have bx0 := blk_grown (blk_alloc (blk_new w (.cells #[.int .i64 a0_0, .int .i64 a0_1, .int .i64 a0_2, .int .i64 a0_3, .int .i64 a0_4, .int .i64 a0_5, .string a0_6, .slice A0_7 l0_7.length c0_7] 87)) (.map #[] 0)) hg0 (by simp)
  have mp0 := (IsKeys.made (w.alloc (.cells #[.int .i64 a0_0, .int .i64 a0_1, .int .i64 a0_2, .int .i64 a0_3, .int .i64 a0_4, .int .i64 a0_5, .string a0_6, .slice A0_7 l0_7.length c0_7] 87)) Try.prog 2 4).kept hg0 (by simp)
  have bl0 : Below w.heap.size w w0 := belowG (below_alloc (below_alloc (Below.refl _ _) _) _) hg0 (fun _ e => by cases e)
  rw [e2] at mp0
  rw [e1] at hrg0 hs0
  have HX := Aside0.mk bx0
  have HM := Aside0.mk mp0
  have HB := Aside0.mk bl0
  have HG := Aside0.mk hrg0
  clear bx0 mp0 bl0 hrg0 hg0
  go_frame
  (first | rw [e1, e2] | rw [e1] | rw [e2] | skip)
  clear e1 e2
  go_loopw [6] (fun _ wr => ∃ (lf ms : List Int), Aside0 (KRange Try.prog 2 4 wr b (w.heap.size + 2) ks lf) ∧ Aside0 (∀ x ∈ lf, x ∈ ks) ∧ Aside0 (IsKeys Try.prog 2 4 wr (w.heap.size + 1) ms) ∧ Aside0 (∀ x, x ∈ ms ↔ (x ∈ ks ∧ x ∉ lf) ∧ x ≠ a0_1) ∧ Aside0 (wr.heap[w.heap.size]? = some (.cells #[.int .i64 a0_0, .int .i64 a0_1, .int .i64 a0_2, .int .i64 a0_3, .int .i64 a0_4, .int .i64 a0_5, .string a0_6, .slice A0_7 l0_7.length c0_7] 87)) ∧ Aside0 (Below w.heap.size w wr))
    (fun _ wr => wr.rangeLeft b (w.heap.size + 2))
  case atStart => exact ⟨ks, [], HG, ⟨fun x h => h⟩, HM, ⟨by simp⟩, HX, HB⟩
  case round =>
    clear HG HM HX HB
    obtain ⟨lf, ms, HG, HS, HM, HE, HX, HB⟩ := hrel
    go_wp2_with (first | (at_next; refine wpList_next_keys rfl _ rfl 2 4 (Maps.int_keyed Try.underlying2) Try.underlying2 Try.underlying4 b (w.heap.size + 2) ks lf rfl HG.out HS.out ?_ ?_))
    · intro hlf
      subst hlf
      have b0 := (blk_cell HX.out 0).trans rfl
      have b1 := (blk_cell HX.out 1).trans rfl
      have b2 := (blk_cell HX.out 2).trans rfl
      have b3 := (blk_cell HX.out 3).trans rfl
      have b4 := (blk_cell HX.out 4).trans rfl
      have b5 := (blk_cell HX.out 5).trans rfl
      have b6 := (blk_cell HX.out 6).trans rfl
      have b7 := (blk_cell HX.out 7).trans rfl
      have hkey : IsKeys Try.prog 2 4 wr (w.heap.size + 1) (ks.filter fun x => !decide (x = a0_1)) := HM.out.same (hn.filter _) (fun x => by rw [HE.out, List.mem_filter]; simp)
      have HM := Aside0.mk hkey
      clear hkey
      go_wp2_with (fail)
      (go_at_call 64; refine (impl_Reads.calls k a0_0 a0_1 a0_2 a0_3 a0_4 a0_5 a0_6 A0_7 c0_7 l0_7 rs _ (Kd.C_below HA.out HB.out) hc0_7 HR.out).mono ?_; rintro e w2 ⟨v2, rfl, hv2, hb2⟩; obtain ⟨A2, c2, hvv⟩ := Kd.R_slice hv2; subst hvv; have HV := Aside0.mk (Kd.R_lower hv2 HB.out.size); have HM2 := Aside0.mk (HM.out.below hb2); have hw2 := hb2.size; have HB2 := Aside0.mk (below_step HB.out hb2); have h1 := HB.out.size; have h0 := HM.out.lt; have HV := Aside0.mk (Kd.R_far1 HV.out rfl (g := w.heap.size + 1) (fun e => by have := own_geR hv2 _ e.symm; omega)); clear hv2 hb2 b0 b1 b2 b3 b4 b5 b6 b7)
      have hw3 := HB2.out.size
      have HB3 := Aside0.mk HB2.out
      obtain ⟨F, hF⟩ : ∃ F, F = ks.filter fun x => !decide (x = a0_1) := ⟨_, rfl⟩
      have hFl : F.length ≤ ks.length := by rw [hF]; exact List.length_filter_le _ _
      rw [← hF] at HM2
      have HFF := Aside0.mk hF
      clear HM HB HX HE HS HG hF HB2
      go_wp2
      go_loopw [25] (fun v wr => ∃ (m : Nat), m ≤ rs.length ∧ v = .int .i64 (m : Int) ∧ Aside0 (IsKeys Try.prog 2 4 wr (w.heap.size + 1) ((rs.take m).foldl insK F)) ∧ Aside0 (Kd.R (Kd.int .i64) 2 wr w.heap.size (fun k => True ∧ k ≠ w.heap.size + 1) (.slice A2 rs.length c2) rs) ∧ Aside0 (Below w.heap.size w wr)) (fun v _ => rs.length - (intOf v).toNat)
      case atStart => exact ⟨0, Nat.zero_le _, rfl, ⟨by rw [List.take_zero]; exact HM2.out⟩, HV, HB3⟩
      case round =>
        clear HM2 HV HB3
        obtain ⟨m, hm, rfl, HM, HV, HB⟩ := hrel
        by_cases hlm : m < rs.length
        · obtain ⟨g, cap2, hg, _, _, _⟩ := Kd.R_form HV.out (by omega)
          injection hg with hg hg2 hg3
          subst hg
          subst hg3
          obtain ⟨cx, _⟩ := Kd.R_celln 0 HV.out (m : Int) (by omega) (by omega)
          obtain ⟨x, hx⟩ : ∃ x, x = rs[m] := ⟨_, rfl⟩
          have hrx : rdOf 0 rs (m : Int) = x := by rw [hx]; simp [rdOf, List.getElem?_eq_getElem hlm]
          rw [hrx, Int.toNat_natCast] at cx
          have hxm : x ∈ rs := by rw [hx]; exact List.getElem_mem _
          have hwx := HW.out x hxm
          have hfl := foldIns_len (rs.take m) F
          rw [List.length_take] at hfl
          have hl := HL.out
          have htk : (rs.take (m + 1)).foldl insK F = insK ((rs.take m).foldl insK F) x := by rw [List.take_succ_eq_append_getElem hlm, List.foldl_append, ← hx]; rfl
          have HT := Aside0.mk htk
          clear htk hx hrx
          go_wp2_with (first | (at_mapUpdate; refine wpList_put_keys rfl _ _ _ 92 rfl 2 4 (Maps.int_keyed Try.underlying2) Try.underlying2 Try.underlying92 Try.underlying4 (w.heap.size + 1) _ rfl HM.out (Nat.lt_trans (by omega : ((rs.take m).foldl insK F).length < 1099511627776) (by decide)) x rfl rfl hwx ?_; intro w2 hm2 hg2))
          have HT2 := Aside0.mk hm2
          have HR2 := Aside0.mk (Kd.R_grown HV.out hg2 (fun k h e => by cases e; exact h.2 rfl))
          have HB2 := Aside0.mk (belowG HB.out hg2 (fun k e => by cases e; omega))
          clear hm2 hg2 cx HM HV HB
          go_roundw
          case measure => simp [intOf]; omega
          case rel => first | exact ⟨m + 1, by omega, by go_num, ⟨by rw [HT.out]; exact HT2.out⟩, HR2, HB2⟩ | ((repeat apply Exists.intro); exact ⟨⟨m + 1, by omega, by go_num, ⟨by rw [HT.out]; exact HT2.out⟩, HR2, HB2⟩, rfl⟩)
        · have hme : m = rs.length := by omega
          subst hme
          go_wp2
          go_ret
          exact ⟨w.heap.size + 1, rfl, by omega, by have h := HM.out; rw [List.take_length, HFF.out] at h; exact h, HB.out⟩
    · intro x w1 hwx hx hg1 hlt hgr hsz hen
      have b1 := (blk_cell HX.out 1).trans rfl
      have hmlt := HM.out.lt
      have hx1 := blk_grown HX.out hgr (by simp)
      have b1 := (blk_cell hx1 1).trans rfl
      have HX1 := Aside0.mk hx1
      have HB1 := Aside0.mk (belowG HB.out hgr (fun k e => by cases e; omega))
      have HM1 := Aside0.mk (HM.out.kept hgr (by simp))
      have HG1 := Aside0.mk hg1
      clear hx1 hg1 hgr HX HB HM
      by_cases hxd : x = a0_1
      · subst hxd
        go_wp2
        go_roundw
        case measure => exact hlt
        case rel => exact ⟨_, ms, HG1, ⟨fun y hy => HS.out y (List.mem_filter.1 hy).1⟩, HM1, ⟨fun y => by rw [HE.out, List.mem_filter]; by_cases hy : y = x <;> simp [hy]⟩, HX1, HB1⟩
      · have hml : ms.length ≤ ks.length := nodup_sub_len _ _ HM1.out.nodup (fun y hy => ((HE.out y).1 hy).1.1)
        have hl := HL.out
        go_wp2_with (first | (at_mapUpdate; refine wpList_put_keys rfl _ _ _ 92 rfl 2 4 (Maps.int_keyed Try.underlying2) Try.underlying2 Try.underlying92 Try.underlying4 (w.heap.size + 1) ms rfl HM1.out (Nat.lt_trans (by omega : ms.length < 1099511627776) (by decide)) x rfl rfl hwx ?_; intro w2 hm2 hg2))
        have HG2 := Aside0.mk (HG1.out.kept hg2 (by simp; omega) (by simp))
        have hlt2 := HG1.out.left_kept hg2 (by simp; omega) (by simp)
        go_roundw
        case measure => rw [hlt2]; exact hlt
        case rel => (repeat apply Exists.intro); exact ⟨⟨_, _, HG2, ⟨fun y hy => HS.out y (List.mem_filter.1 hy).1⟩, ⟨hm2⟩, ⟨fun y => by rw [insK_mem, HE.out, List.mem_filter]; by_cases hy : y = x <;> simp [hy, hxd, HS.out x hx]⟩, ⟨blk_grown HX1.out hg2 (by simp)⟩, ⟨belowG HB1.out hg2 (fun k e => by cases e; omega)⟩⟩, rfl⟩
abbrev KM : Kd Nat := Kd.scalar (fun b : Nat => Value.map (some b)) (fun _ => rfl)
def stopsB (op : Int) : Bool := (impl_stops.f op).getD false
def jumpsB (op : Int) : Bool := (impl_jumps.f op).getD false
theorem stopsB_f (op : Int) : impl_stops.f op = some (stopsB op) := by unfold stopsB impl_stops.f; split <;> (try split) <;> rfl
theorem jumpsB_f (op : Int) : impl_jumps.f op = some (jumpsB op) := by unfold jumpsB impl_jumps.f; split <;> (try split) <;> rfl
def flowK (op : Int) (nx : List Int) : List Int := if stopsB op = true then [] else nx
def jumpK (op imm : Int) (kss : List (List Int)) : List Int := if jumpsB op = true ∧ 0 ≤ imm ∧ imm < (kss.length : Int) then kss.getD imm.toNat [] else []
def behindK (op imm : Int) (kss : List (List Int)) (nx : List Int) : List Int := (jumpK op imm kss).foldl insK (flowK op nx)
theorem behindK_mem (op imm : Int) (kss : List (List Int)) (nx : List Int) (x : Int) : x ∈ behindK op imm kss nx ↔ x ∈ flowK op nx ∨ x ∈ jumpK op imm kss := foldIns_mem _ _ _
theorem flowK_nodup {nx : List Int} (h : nx.Nodup) (op : Int) : (flowK op nx).Nodup := by unfold flowK; split <;> simp [h]
theorem behindK_nodup {nx : List Int} (h : nx.Nodup) (op imm : Int) (kss : List (List Int)) : (behindK op imm kss nx).Nodup := foldIns_nodup _ _ (flowK_nodup h op)
set_option maxHeartbeats 4000000 in
set_option maxRecDepth 100000 in
theorem behind_calls (a0_0 : Int) (a0_1 : Int) (a0_2 : Int) (a0_3 : Int) (a0_4 : Int) (a0_5 : Int) (a0_6 : ByteArray) (A0_7 : Option Addr) (c0_7 : Nat) (l0_7 : List Int) (b : Nat) (nx : List Int) (w : World)
    (bL base : Nat) (ok : Nat → Prop) (u0 u1 vb : Value) (Ab : Option Addr) (cb nb : Nat) (bs : List Nat) (kss : List (List Int))
    (hbx : w.heap[bL]? = some (.cells #[u0, u1, .slice Ab nb cb, vb] 102 (0, 0))) (hrow : KM.R 92 w base ok vb bs) (hlen : bs.length = nb) (hkl : kss.length = nb)
    (hks : ∀ j, j < nb → IsKeys Try.prog 2 4 w (bs.getD j 0) (kss.getD j []))
    (h : IsKeys Try.prog 2 4 w b nx) (hl : nx.length < 549755813888) (hls : ∀ j, j < nb → (kss.getD j []).length < 549755813888) :
    Calls Try.prog 124 #[.pointer (some ⟨bL, 0, none⟩), .agg #[.int .i64 a0_0, .int .i64 a0_1, .int .i64 a0_2, .int .i64 a0_3, .int .i64 a0_4, .int .i64 a0_5, .string a0_6, .slice A0_7 l0_7.length c0_7], .map (some b)] w fun e w' =>
      ∃ b', e = .returned (.map (some b')) ∧ w.heap.size ≤ b' ∧ IsKeys Try.prog 2 4 w' b' (behindK a0_0 a0_5 kss nx) ∧ Below w.heap.size w w' := by
  have hb := h.lt
  have hn := h.nodup
  have hbl := blk_lt hbx
  have HK := Aside0.mk h
  have HL := Aside0.mk hl
  have HLS := Aside0.mk hls
  have HKS := Aside0.mk hks
  have HRW := Aside0.mk hrow
  have HBX := Aside0.mk hbx
  clear h hl hls hks hrow hbx
  have hu1 := Try.underlying87
  have hu2 := Try.underlying102
  have hu3 := Try.underlying29
  have hmm := @run_makeMap Try.prog
  obtain ⟨s, hs⟩ : ∃ s, s = stopsB a0_0 := ⟨_, rfl⟩
  obtain ⟨jm, hjm⟩ : ∃ s, s = jumpsB a0_0 := ⟨_, rfl⟩
  have hst := stopsB_f a0_0
  have hjp := jumpsB_f a0_0
  rw [← hs] at hst
  rw [← hjm] at hjp
  have HST := Aside0.mk hst
  have HJP := Aside0.mk hjp
  clear hst hjp
  have e2 : (w.alloc (.cells #[.int .i64 a0_0, .int .i64 a0_1, .int .i64 a0_2, .int .i64 a0_3, .int .i64 a0_4, .int .i64 a0_5, .string a0_6, .slice A0_7 l0_7.length c0_7] 87)).heap.size = w.heap.size + 1 := by simp
  have e1 : ((w.alloc (.cells #[.int .i64 a0_0, .int .i64 a0_1, .int .i64 a0_2, .int .i64 a0_3, .int .i64 a0_4, .int .i64 a0_5, .string a0_6, .slice A0_7 l0_7.length c0_7] 87)).alloc (.map #[] 0)).heap.size = w.heap.size + 2 := by simp
  have bx0 := blk_alloc (blk_new w (.cells #[.int .i64 a0_0, .int .i64 a0_1, .int .i64 a0_2, .int .i64 a0_3, .int .i64 a0_4, .int .i64 a0_5, .string a0_6, .slice A0_7 l0_7.length c0_7] 87)) (.map #[] 0)
  have mp0 := IsKeys.made (w.alloc (.cells #[.int .i64 a0_0, .int .i64 a0_1, .int .i64 a0_2, .int .i64 a0_3, .int .i64 a0_4, .int .i64 a0_5, .string a0_6, .slice A0_7 l0_7.length c0_7] 87)) Try.prog 2 4
  rw [e2] at mp0
  have bl0 : Below w.heap.size w ((w.alloc (.cells #[.int .i64 a0_0, .int .i64 a0_1, .int .i64 a0_2, .int .i64 a0_3, .int .i64 a0_4, .int .i64 a0_5, .string a0_6, .slice A0_7 l0_7.length c0_7] 87)).alloc (.map #[] 0)) := below_alloc (below_alloc (Below.refl _ _) _) _
  have HX := Aside0.mk bx0
  have HM := Aside0.mk mp0
  have HB := Aside0.mk bl0
  have b0 := (blk_cell bx0 0).trans rfl
  clear bx0 mp0 bl0
  go_enter Try.func124, Try.ntmps124
  have HS0 := Aside0.mk hs
  have HJ0 := Aside0.mk hjm
  clear hs hjm
  go_upto_if 14 with (first | (go_at_call 130; refine (impl_stops.calls a0_0 s _ HST.out).mono ?_; rintro e w' ⟨rfl, ⟨nd, rfl⟩⟩))
  have HM := Aside0.mk (HM.out.drewN nd)
  have HX := Aside0.mk (blk_drewN HX.out nd)
  have HB := Aside0.mk (pw_below_drewN HB.out nd)
  have HK := Aside0.mk (((HK.out.alloc (.cells #[.int .i64 a0_0, .int .i64 a0_1, .int .i64 a0_2, .int .i64 a0_3, .int .i64 a0_4, .int .i64 a0_5, .string a0_6, .slice A0_7 l0_7.length c0_7] 87)).alloc (.map #[] 0)).drewN nd)
  clear b0
  go_cut [] (fun wc => ∃ (ms : List Int), Aside0 (IsKeys Try.prog 2 4 wc (w.heap.size + 1) ms) ∧ Aside0 (∀ x, x ∈ ms ↔ x ∈ flowK a0_0 nx) ∧ Aside0 (wc.heap[w.heap.size]? = some (.cells #[.int .i64 a0_0, .int .i64 a0_1, .int .i64 a0_2, .int .i64 a0_3, .int .i64 a0_4, .int .i64 a0_5, .string a0_6, .slice A0_7 l0_7.length c0_7] 87 (0, 0))) ∧ Aside0 (Below w.heap.size w wc))
  case first =>
    cases s
    · go_wp2_with (first | (at_range; refine wpList_range_keys rfl _ 92 rfl 2 4 (Maps.int_keyed Try.underlying2) Try.underlying92 b nx rfl HK.out ?_; intro w0 hrg0 hg0 hs0))
      have e1' : (((w.alloc (.cells #[.int .i64 a0_0, .int .i64 a0_1, .int .i64 a0_2, .int .i64 a0_3, .int .i64 a0_4, .int .i64 a0_5, .string a0_6, .slice A0_7 l0_7.length c0_7] 87)).alloc (.map #[] 0)).drewN nd).heap.size = w.heap.size + 2 := e1
      rw [e1'] at hrg0 hs0
      have HG := Aside0.mk hrg0
      have HM := Aside0.mk (HM.out.kept hg0 (by simp))
      have HX := Aside0.mk (blk_grown HX.out hg0 (by simp))
      have HB := Aside0.mk (belowG HB.out hg0 (fun _ e => by cases e))
      clear hrg0 hg0
      go_frame
      (first | rw [e1', e2] | rw [e1'] | rw [e2] | skip)
      clear e1 e2 e1'
      go_loopw [8] (fun _ wr => ∃ (lf mz : List Int), Aside0 (KRange Try.prog 2 4 wr b (w.heap.size + 2) nx lf) ∧ Aside0 (∀ x ∈ lf, x ∈ nx) ∧ Aside0 (IsKeys Try.prog 2 4 wr (w.heap.size + 1) mz) ∧ Aside0 (∀ x, x ∈ mz ↔ x ∈ ([] : List Int) ∨ (x ∈ nx ∧ x ∉ lf)) ∧ Aside0 (wr.heap[w.heap.size]? = some (.cells #[.int .i64 a0_0, .int .i64 a0_1, .int .i64 a0_2, .int .i64 a0_3, .int .i64 a0_4, .int .i64 a0_5, .string a0_6, .slice A0_7 l0_7.length c0_7] 87 (0, 0))) ∧ Aside0 (Below w.heap.size w wr))
        (fun _ wr => wr.rangeLeft b (w.heap.size + 2))
      case atStart => exact ⟨nx, ([] : List Int), HG, ⟨fun x h => h⟩, HM, ⟨by simp⟩, HX, HB⟩
      case round =>
        clear HG HM HX HB
        obtain ⟨lf, mz, HG, HS, HM, HE, HX, HB⟩ := hrel
        go_wp2_with (first | (at_next; refine wpList_next_keys rfl _ rfl 2 4 (Maps.int_keyed Try.underlying2) Try.underlying2 Try.underlying4 b (w.heap.size + 2) nx lf rfl HG.out HS.out ?_ ?_))
        · intro hlf
          subst hlf
          go_wp2
          go_meet
          case rel => exact ⟨mz, HM, ⟨fun x => by rw [HE.out]; unfold flowK; rw [← HS0.out]; simp⟩, HX, HB⟩
        · intro x w1 hwx hx hg1 hlt hgr hsz hen
          have hmlt := HM.out.lt
          have hx1 := blk_grown HX.out hgr (by intro e; have := Option.some.inj e; omega)
          have HX1 := Aside0.mk hx1
          have HB1 := Aside0.mk (belowG HB.out hgr (fun k e => by cases e; omega))
          have HM1 := Aside0.mk (HM.out.kept hgr (by intro e; have := Option.some.inj e; omega))
          have HG1 := Aside0.mk hg1
          clear hx1 hg1 hgr HX HB HM
          have hml : mz.length ≤ ([] : List Int).length + nx.length := by rw [← List.length_append]; exact nodup_sub_len _ _ HM1.out.nodup (fun y hy => by rw [List.mem_append]; exact ((HE.out y).1 hy).imp id (fun h => h.1))
          (try simp only [List.length_nil, Nat.zero_add] at hml)
          have hl := HL.out
          go_wp2_with (first | (at_mapUpdate; refine wpList_put_keys rfl _ _ _ 92 rfl 2 4 (Maps.int_keyed Try.underlying2) Try.underlying2 Try.underlying92 Try.underlying4 (w.heap.size + 1) mz rfl HM1.out (Nat.lt_trans (by omega : mz.length < 1099511627776) (by decide)) x rfl rfl hwx ?_; intro w2 hm2 hg2))
          have HG2 := Aside0.mk (HG1.out.kept hg2 (by intro e; have := Option.some.inj e; omega) (by intro e; have := Option.some.inj e; omega))
          have hlt2 := HG1.out.left_kept hg2 (by intro e; have := Option.some.inj e; omega) (by intro e; have := Option.some.inj e; omega)
          go_roundw
          case measure => rw [hlt2]; exact hlt
          case rel => (repeat apply Exists.intro); exact ⟨⟨_, _, HG2, ⟨fun y hy => HS.out y (List.mem_filter.1 hy).1⟩, ⟨hm2⟩, ⟨fun y => by rw [insK_mem, HE.out, List.mem_filter]; by_cases hy : y = x <;> simp [hy, HS.out x hx]⟩, ⟨blk_grown HX1.out hg2 (by simp)⟩, ⟨belowG HB1.out hg2 (fun k e => by cases e; omega)⟩⟩, rfl⟩
    · go_wp2
      go_meet
      case rel => exact ⟨[], HM, ⟨fun x => by unfold flowK; rw [← HS0.out]; simp⟩, HX, HB⟩
  case rest =>
    clear HM HX HB HK
    obtain ⟨ms, HM, HE, HX, HB⟩ := hcut
    have hsz := HB.out.size
    have hmn := HM.out.nodup
    have b0 := (blk_cell HX.out 0).trans rfl
    have b5 := (blk_cell HX.out 5).trans rfl
    have hbx2 := (HB.out.block bL hbl).trans HBX.out
    have d2 := (blk_cell hbx2 2).trans rfl
    by_cases hq : jm = true ∧ 0 ≤ a0_5 ∧ a0_5 < (nb : Int)
    · obtain ⟨rfl, c0, c1⟩ := hq
      have c0b : decide (0 ≤ a0_5) = true := decide_eq_true c0
      have c1b : decide (a0_5 < (nb : Int)) = true := decide_eq_true c1
      go_wp2
      go_quiet (exact Calls.quiet_of ((impl_jumps.calls a0_0 true _ HJP.out).mono fun _ _ ⟨h1, ⟨nd, h2⟩⟩ => ⟨h1, nd, h2⟩))
      obtain ⟨n, hn5⟩ : ∃ n : Nat, a0_5 = (n : Int) := ⟨a0_5.toNat, by omega⟩
      have hnb : n < nb := by omega
      obtain ⟨g, cap2, hg, _, hgb, _⟩ := Kd.R_form HRW.out (by omega)
      rw [hlen] at hg
      have HR0 := HRW.out
      rw [hg] at HR0
      obtain ⟨cx, _⟩ := Kd.R_celln 0 HR0 a0_5 c0 c1
      obtain ⟨bj, hbj⟩ : ∃ bj, bj = bs.getD n 0 := ⟨_, rfl⟩
      obtain ⟨kj, hkj⟩ : ∃ kj, kj = kss.getD n [] := ⟨_, rfl⟩
      have hrx : rdOf 0 bs a0_5 = bj := by rw [hbj, hn5]; simp [rdOf, List.getD_eq_getElem?_getD]
      have hkx := HKS.out n hnb
      have hlx := HLS.out n hnb
      rw [← hbj, ← hkj] at hkx
      rw [← hkj] at hlx
      rw [hrx] at cx
      have hjk : jumpK a0_0 a0_5 kss = kj := by unfold jumpK; rw [← HJ0.out, hkl, if_pos ⟨rfl, c0, c1⟩, hn5, Int.toNat_natCast, hkj]
      have cx := (HB.out.cell (p := ⟨g, a0_5.toNat, none⟩) hgb).trans cx
      rw [hg] at hbx2
      have d3 := (blk_cell hbx2 3).trans rfl
      have hbjl := hkx.lt
      have hkx := (hkx.below HB.out).drewN nq
      have HKX := Aside0.mk hkx
      have HJK := Aside0.mk hjk
      have HM := Aside0.mk (HM.out.drewN nq)
      have HX := Aside0.mk (blk_drewN HX.out nq)
      have HB := Aside0.mk (pw_below_drewN HB.out nq)
      have hml0 : ms.length ≤ nx.length := nodup_sub_len _ _ hmn (fun y hy => by have h := (HE.out y).1 hy; unfold flowK at h; split at h <;> first | exact h | cases h)
      have HLL := Aside0.mk (show ms.length + kj.length < 1099511627776 from by have := HL.out; omega)
      clear hkx hjk hrx hbj hkj HR0 hn5 hlx hml0
      obtain ⟨W9, hW9⟩ : ∃ W9, W9 = wc.drewN nq := ⟨_, rfl⟩
      go_wp2
      go_cut [50] (fun v50 wc => ∃ (r : Nat), v50 = .pointer (some ⟨r, 0, none⟩) ∧ w.heap.size + 1 < r ∧ Aside0 (KRange Try.prog 2 4 wc bj r kj kj) ∧ Aside0 (IsKeys Try.prog 2 4 wc (w.heap.size + 1) ms) ∧ Aside0 (wc.heap[w.heap.size]? = some (.cells #[.int .i64 a0_0, .int .i64 a0_1, .int .i64 a0_2, .int .i64 a0_3, .int .i64 a0_4, .int .i64 a0_5, .string a0_6, .slice A0_7 l0_7.length c0_7] 87 (0, 0))) ∧ Aside0 (Below w.heap.size w wc))
      case first =>
        rename_i J1 K1 hJ hK
        obtain ⟨w0, hrun, hrg0, hg0, hs0⟩ := ((show IsKeys Try.prog 2 4 (wc.drewN (nq + 1)) bj kj from HKX.out).range (Maps.int_keyed Try.underlying2) Try.underlying92)
        have hs9 : (wc.drewN (nq + 1)).heap.size = wc.heap.size := rfl
        have h9 := HM.out.lt
        go_region_with (fail)
        all_goals refine hK _ _ ?_
        all_goals refine hJ _ _ ?_
        all_goals ((repeat apply Exists.intro); exact ⟨⟨wc.heap.size, rfl, h9, ⟨hrg0⟩, ⟨(show IsKeys Try.prog 2 4 (wc.drewN (nq + 1)) (w.heap.size + 1) ms from HM.out).kept hg0 (by simp)⟩, ⟨blk_grown (show (wc.drewN (nq + 1)).heap[w.heap.size]? = _ from HX.out) hg0 (by simp)⟩, ⟨belowG (show Below w.heap.size w (wc.drewN (nq + 1)) from pw_below_drewN HB.out 1) hg0 (fun _ e => by cases e)⟩⟩, rfl⟩)
      case rest =>
        have HE2 := Aside0.mk HE.out
        clear HM HX HB HKX HE b0 b5 d2 d3 cx hsz
        obtain ⟨r, rfl, hr9, HG, HM, HX, HB⟩ := hcut
        have hsz := HB.out.size
        go_wp2
        go_loopw [9] (fun _ wr => ∃ (lf mz : List Int), Aside0 (KRange Try.prog 2 4 wr bj (r) kj lf) ∧ Aside0 (∀ x ∈ lf, x ∈ kj) ∧ Aside0 (IsKeys Try.prog 2 4 wr (w.heap.size + 1) mz) ∧ Aside0 (∀ x, x ∈ mz ↔ x ∈ ms ∨ (x ∈ kj ∧ x ∉ lf)) ∧ Aside0 (wr.heap[w.heap.size]? = some (.cells #[.int .i64 a0_0, .int .i64 a0_1, .int .i64 a0_2, .int .i64 a0_3, .int .i64 a0_4, .int .i64 a0_5, .string a0_6, .slice A0_7 l0_7.length c0_7] 87 (0, 0))) ∧ Aside0 (Below w.heap.size w wr))
          (fun _ wr => wr.rangeLeft bj (r))
        case atStart => exact ⟨kj, ms, HG, ⟨fun x h => h⟩, HM, ⟨by simp⟩, HX, HB⟩
        case round =>
          clear HG HM HX HB
          obtain ⟨lf, mz, HG, HS, HM, HE, HX, HB⟩ := hrel
          go_wp2_with (first | (at_next; refine wpList_next_keys rfl _ rfl 2 4 (Maps.int_keyed Try.underlying2) Try.underlying2 Try.underlying4 bj (r) kj lf rfl HG.out HS.out ?_ ?_))
          · intro hlf
            subst hlf
            go_wp2
            go_ret
            exact ⟨w.heap.size + 1, rfl, by omega, HM.out.same (behindK_nodup hn a0_0 a0_5 kss) (fun x => by rw [HE.out, behindK_mem, HJK.out, HE2.out]; simp), HB.out⟩
          · intro x w1 hwx hx hg1 hlt hgr hsz hen
            have hmlt := HM.out.lt
            have hx1 := blk_grown HX.out hgr (by intro e; have := Option.some.inj e; omega)
            have HX1 := Aside0.mk hx1
            have HB1 := Aside0.mk (belowG HB.out hgr (fun k e => by cases e; omega))
            have HM1 := Aside0.mk (HM.out.kept hgr (by intro e; have := Option.some.inj e; omega))
            have HG1 := Aside0.mk hg1
            clear hx1 hg1 hgr HX HB HM
            have hml : mz.length ≤ ms.length + kj.length := by rw [← List.length_append]; exact nodup_sub_len _ _ HM1.out.nodup (fun y hy => by rw [List.mem_append]; exact ((HE.out y).1 hy).imp id (fun h => h.1))
            (try simp only [List.length_nil, Nat.zero_add] at hml)
            have hl := HLL.out
            go_wp2_with (first | (at_mapUpdate; refine wpList_put_keys rfl _ _ _ 92 rfl 2 4 (Maps.int_keyed Try.underlying2) Try.underlying2 Try.underlying92 Try.underlying4 (w.heap.size + 1) mz rfl HM1.out (Nat.lt_trans (by omega : mz.length < 1099511627776) (by decide)) x rfl rfl hwx ?_; intro w2 hm2 hg2))
            have HG2 := Aside0.mk (HG1.out.kept hg2 (by intro e; have := Option.some.inj e; omega) (by intro e; have := Option.some.inj e; omega))
            have hlt2 := HG1.out.left_kept hg2 (by intro e; have := Option.some.inj e; omega) (by intro e; have := Option.some.inj e; omega)
            go_roundw
            case measure => rw [hlt2]; exact hlt
            case rel => (repeat apply Exists.intro); exact ⟨⟨_, _, HG2, ⟨fun y hy => HS.out y (List.mem_filter.1 hy).1⟩, ⟨hm2⟩, ⟨fun y => by rw [insK_mem, HE.out, List.mem_filter]; by_cases hy : y = x <;> simp [hy, HS.out x hx]⟩, ⟨blk_grown HX1.out hg2 (by simp)⟩, ⟨belowG HB1.out hg2 (fun k e => by cases e; omega)⟩⟩, rfl⟩
    · have hfin : ∀ W, Calls Try.prog 0 #[] W (fun _ _ => True) → True := fun _ _ => trivial
      have HF := Aside0.mk (HM.out.same (behindK_nodup hn a0_0 a0_5 kss) (fun x => by rw [HE.out, behindK_mem]; unfold jumpK; rw [← HJ0.out, hkl, if_neg hq]; simp))
      cases jm
      · go_wp2
        go_quiet (exact Calls.quiet_of ((impl_jumps.calls a0_0 false _ HJP.out).mono fun _ _ ⟨h1, ⟨nd, h2⟩⟩ => ⟨h1, nd, h2⟩))
        go_wp2
        go_ret
        exact ⟨w.heap.size + 1, rfl, by omega, HF.out, pw_below_drewN HB.out nq⟩
      · by_cases c0 : 0 ≤ a0_5
        · have c1 : ¬ a0_5 < (nb : Int) := fun h => hq ⟨rfl, c0, h⟩
          have c0b : decide (0 ≤ a0_5) = true := decide_eq_true c0
          have c1b : decide (a0_5 < (nb : Int)) = false := decide_eq_false c1
          go_wp2
          go_quiet (exact Calls.quiet_of ((impl_jumps.calls a0_0 true _ HJP.out).mono fun _ _ ⟨h1, ⟨nd, h2⟩⟩ => ⟨h1, nd, h2⟩))
          go_wp2
          go_ret
          exact ⟨w.heap.size + 1, rfl, by omega, HF.out, pw_below_drewN HB.out nq⟩
        · have c0b : decide (0 ≤ a0_5) = false := decide_eq_false c0
          go_wp2
          go_quiet (exact Calls.quiet_of ((impl_jumps.calls a0_0 true _ HJP.out).mono fun _ _ ⟨h1, ⟨nd, h2⟩⟩ => ⟨h1, nd, h2⟩))
          go_wp2
          go_ret
          exact ⟨w.heap.size + 1, rfl, by omega, HF.out, pw_below_drewN HB.out nq⟩
end Go.Proofs.Ythegbhfoleiegaa.All

/- What is live, as lists of keys: what impl.liveOf computes. -/
namespace Go.Proofs.Ythegbhfoleiegaa.All
open Go.RowKit Go.Proofs.YthegbhfoleiegaaW.PrintWords Go.Proofs.YthegbhfoleiegaaW.PrintLast Go.Proofs.YthegbhfoleiegaaW.PrintMore
set_option linter.unusedVariables false
set_option linter.unusedSimpArgs false
def readsL (i : S87) : List Int := ([i.f2, i.f3, if i.f0 = 20 ∨ i.f0 = 21 ∨ i.f0 = 46 then -1 else i.f4] ++ i.f7).filter fun x => decide (0 ≤ x)
def stepK (kss : List (List Int)) (i : S87) (nx : List Int) : List Int := aheadK i.f1 (readsL i) (behindK i.f0 i.f5 kss nx)
def blockK (kss : List (List Int)) (ins : List (S87)) : List Int := ins.foldr (stepK kss) []
def insAt (bl : List (S85)) (b : Nat) : List (S87) := (rd_T85 bl (b : Int)).f0
def stepP (bl : List (S85)) (s : List (List Int) × Bool) (b : Nat) : List (List Int) × Bool :=
  if (blockK s.1 (insAt bl b)).length = (s.1.getD b []).length then s else (s.1.set b (blockK s.1 (insAt bl b)), true)
def passK (bl : List (S85)) (kss : List (List Int)) (m : Nat) : List (List Int) × Bool := (List.range m).foldl (stepP bl) (kss, false)
def loopK (bl : List (S85)) : Nat → List (List Int) → Option (List (List Int))
  | 0, _ => none
  | k + 1, kss => if (passK bl kss bl.length).2 = true then loopK bl k (passK bl kss bl.length).1 else some (passK bl kss bl.length).1
theorem passK_succ (bl : List (S85)) (kss : List (List Int)) (m : Nat) : passK bl kss (m + 1) = stepP bl (passK bl kss m) m := by
  unfold passK
  rw [List.range_succ, List.foldl_append]
  rfl
def allR (bl : List (S85)) : List Int := bl.flatMap fun b => b.f0.flatMap readsL
def okI (k : Nat) (i : S87) : Prop := impl_Reads.f k i.f0 i.f1 i.f2 i.f3 i.f4 i.f5 i.f6 i.f7 = some (readsL i) ∧ ∀ x ∈ readsL i, (Lit.int .i64 x).wf = true
instance (k : Nat) (i : S87) : Decidable (okI k i) := by unfold okI; infer_instance
def okV (k : Nat) (bl : List (S85)) : Prop := bl.length ≤ 1000000000 ∧ (∀ b ∈ bl, b.f0.length ≤ 1000000000 ∧ ∀ i ∈ b.f0, okI k i) ∧ (allR bl).length ≤ 1000000000
instance (k : Nat) (bl : List (S85)) : Decidable (okV k bl) := by unfold okV; infer_instance
theorem loopK_mono (bl : List (S85)) : ∀ (k : Nat) (kss r : List (List Int)), loopK bl k kss = some r → loopK bl (k + 1) kss = some r
  | 0, kss, r, h => by simp [loopK] at h
  | k + 1, kss, r, h => by
    rw [loopK] at h ⊢
    split at h
    · rename_i hc
      rw [if_pos hc]
      exact loopK_mono bl k _ r h
    · rename_i hc
      rw [if_neg hc]
      exact h
/-- All keys lie among AR. -/
def SubK (AR : List Int) (kss : List (List Int)) : Prop := ∀ j, ∀ x ∈ kss.getD j [], x ∈ AR
theorem behindK_sub {AR nx : List Int} {kss : List (List Int)} (op imm : Int) (h : SubK AR kss) (hn : ∀ x ∈ nx, x ∈ AR) : ∀ x ∈ behindK op imm kss nx, x ∈ AR := fun x hx => by
  rcases (behindK_mem op imm kss nx x).1 hx with h1 | h1
  · unfold flowK at h1
    split at h1
    · cases h1
    · exact hn x h1
  · unfold jumpK at h1
    split at h1
    · exact h _ x h1
    · cases h1
theorem blockK_nodup (kss : List (List Int)) : ∀ (ins : List (S87)), (blockK kss ins).Nodup
  | [] => List.nodup_nil
  | i :: ins => aheadK_nodup (behindK_nodup (blockK_nodup kss ins) _ _ _) _ _
theorem blockK_sub {AR : List Int} {kss : List (List Int)} (h : SubK AR kss) : ∀ (ins : List (S87)), (∀ i ∈ ins, ∀ x ∈ readsL i, x ∈ AR) → ∀ x ∈ blockK kss ins, x ∈ AR
  | [], _, x, hx => by cases hx
  | i :: ins, hi, x, hx => by
    rcases (aheadK_mem _ _ _ _).1 hx with h1 | h1
    · exact behindK_sub _ _ h (blockK_sub h ins (fun i' h' => hi i' (List.mem_cons_of_mem _ h'))) x h1.1
    · exact hi i (by simp) x h1
theorem allR_mem {bl : List (S85)} {b : Nat} (hb : b < bl.length) : ∀ i ∈ insAt bl b, ∀ x ∈ readsL i, x ∈ allR bl := fun i hi x hx => by
  unfold allR
  rw [List.mem_flatMap]
  have e : insAt bl b = (bl[b]).f0 := by unfold insAt rd_T85; rw [Int.toNat_natCast, List.getD_eq_getElem?_getD, List.getElem?_eq_getElem hb]; rfl
  exact ⟨bl[b], List.getElem_mem _, List.mem_flatMap.2 ⟨i, by rw [← e]; exact hi, hx⟩⟩
theorem insAt_ok {k : Nat} {bl : List (S85)} (h : okV k bl) {b : Nat} (hb : b < bl.length) : (insAt bl b).length ≤ 1000000000 ∧ ∀ i ∈ insAt bl b, okI k i := by
  have e : insAt bl b = (bl[b]).f0 := by unfold insAt rd_T85; rw [Int.toNat_natCast, List.getD_eq_getElem?_getD, List.getElem?_eq_getElem hb]; rfl
  rw [e]
  exact h.2.1 _ (List.getElem_mem _)
theorem stepP_len (bl : List (S85)) (s : List (List Int) × Bool) (b : Nat) : (stepP bl s b).1.length = s.1.length := by unfold stepP; split <;> simp
theorem SubK_set {AR : List Int} {kss : List (List Int)} (h : SubK AR kss) (b : Nat) {ks : List Int} (hk : ∀ x ∈ ks, x ∈ AR) : SubK AR (kss.set b ks) := fun j x hx => by
  rw [List.getD_eq_getElem?_getD, List.getElem?_set] at hx
  split at hx
  · split at hx
    · exact hk x hx
    · simp at hx
  · exact h j x (by rw [List.getD_eq_getElem?_getD]; exact hx)
theorem stepP_sub {bl : List (S85)} {s : List (List Int) × Bool} {b : Nat} (hb : b < bl.length) (h : SubK (allR bl) s.1) : SubK (allR bl) (stepP bl s b).1 := by
  unfold stepP
  split
  · exact h
  · exact SubK_set h b (blockK_sub h _ (allR_mem hb))
theorem len_flatMap {α : Type} (f : α → List Int) : ∀ (l : List α) (a : α), a ∈ l → (f a).length ≤ (l.flatMap f).length
  | x :: l, a, h => by
    rw [List.flatMap_cons, List.length_append]
    rcases List.mem_cons.1 h with rfl | h
    · omega
    · have := len_flatMap f l a h
      omega
theorem allR_len {bl : List (S85)} {b : Nat} (hb : b < bl.length) : ∀ i ∈ insAt bl b, (readsL i).length ≤ (allR bl).length := fun i hi => by
  have e : insAt bl b = (bl[b]).f0 := by unfold insAt rd_T85; rw [Int.toNat_natCast, List.getD_eq_getElem?_getD, List.getElem?_eq_getElem hb]; rfl
  rw [e] at hi
  exact Nat.le_trans (len_flatMap readsL _ i hi) (len_flatMap (fun b : S85 => b.f0.flatMap readsL) bl _ (List.getElem_mem hb))
end Go.Proofs.Ythegbhfoleiegaa.All

/- What spec.l18Hulls computes. -/
namespace Go.Proofs.Ythegbhfoleiegaa.All
open Go.RowKit Go.Proofs.YthegbhfoleiegaaW.PrintWords Go.Proofs.YthegbhfoleiegaaW.PrintLast Go.Proofs.YthegbhfoleiegaaW.PrintMore
set_option linter.unusedVariables false
set_option linter.unusedSimpArgs false
def growL (H : List (S111)) (r p : Int) : List (S111) :=
  if r < 0 ∨ (H.length : Int) ≤ r then H else H.set r.toNat (if (rd_T111 H r).f0 = true then ⟨true, if p < (rd_T111 H r).f1 then p else (rd_T111 H r).f1, if (rd_T111 H r).f2 < p then p else (rd_T111 H r).f2⟩ else ⟨true, p, p⟩)
theorem growL_len (H : List (S111)) (r p : Int) : (growL H r p).length = H.length := by unfold growL; split <;> simp
theorem rdSet (H : List (S111)) (r : Int) (x : S111) (h0 : 0 ≤ r) (h1 : r < (H.length : Int)) : rd_T111 (H.set r.toNat x) r = x := by
  unfold rd_T111
  rw [List.getD_eq_getElem?_getD, List.getElem?_set, if_pos rfl, if_pos (by omega)]
  rfl
theorem setSelf (H : List (S111)) (r : Int) (h0 : 0 ≤ r) (h1 : r < (H.length : Int)) : H.set r.toNat (rd_T111 H r) = H := by
  unfold rd_T111
  rw [List.getD_eq_getElem?_getD, List.getElem?_eq_getElem (by omega : r.toNat < H.length)]
  exact List.set_getElem_self _
/-- The registers of a row of Booleans, first m, grown to p. -/
def growRow (row : List Bool) (m : Nat) (H : List (S111)) (p : Int) : List (S111) := (List.range m).foldl (fun H (r : Nat) => if row.getD r false = true then growL H (r : Int) p else H) H
theorem growRow_succ (row : List Bool) (m : Nat) (H : List (S111)) (p : Int) : growRow row (m + 1) H p = if row.getD m false = true then growL (growRow row m H p) (m : Int) p else growRow row m H p := by
  unfold growRow
  rw [List.range_succ, List.foldl_append]
  rfl
theorem growRow_len (row : List Bool) (H : List (S111)) (p : Int) : ∀ m, (growRow row m H p).length = H.length
  | 0 => rfl
  | m + 1 => by rw [growRow_succ]; split; rw [growL_len]; exact growRow_len row H p m; exact growRow_len row H p m
def growReads (rs : List Int) (m : Nat) (H : List (S111)) (p : Int) : List (S111) := (rs.take m).foldl (fun H r => growL H r p) H
theorem growReads_succ (rs : List Int) (m : Nat) (H : List (S111)) (p : Int) (h : m < rs.length) : growReads rs (m + 1) H p = growL (growReads rs m H p) rs[m] p := by
  unfold growReads
  rw [List.take_succ_eq_append_getElem h, List.foldl_append]
  rfl
theorem growReads_len (rs : List Int) (p : Int) : ∀ (m : Nat) (H : List (S111)), (growReads rs m H p).length = H.length := by
  intro m H
  unfold growReads
  generalize rs.take m = ys
  induction ys generalizing H with
  | nil => rfl
  | cons y ys ih => rw [List.foldl_cons, ih, growL_len]
def targetOf (nb : Nat) (i : S87) : Int := if jumpsB i.f0 = true ∧ 0 ≤ i.f5 ∧ i.f5 < (nb : Int) then i.f5 else -1
def hullIns (nb : Nat) (L : List (List Bool)) (last : Int) (H : List (S111)) (i : S87) (at_ : Int) : List (S111) :=
  if 0 ≤ targetOf nb i then growRow (L.getD (targetOf nb i).toNat []) (L.getD (targetOf nb i).toNat []).length (growL (growReads (readsL i) (readsL i).length H (2 * at_)) i.f1 (2 * at_ + 1)) last else growL (growReads (readsL i) (readsL i).length H (2 * at_)) i.f1 (2 * at_ + 1)
def hullBlk (nb : Nat) (L : List (List Bool)) (is : List (S87)) (first : Int) (m : Nat) (s : List (S111) × List Int) : List (S111) × List Int :=
  (List.range m).foldl (fun (s : List (S111) × List Int) (j : Nat) => (hullIns nb L (2 * (first + (is.length : Nat) - 1) + 1) s.1 (rd_T87 is (j : Int)) (first + (j : Int)), if (rd_T87 is (j : Int)).f0 = 61 then s.2 ++ [first + (j : Int)] else s.2)) s
theorem hullBlk_succ (nb : Nat) (L : List (List Bool)) (is : List (S87)) (first : Int) (m : Nat) (s : List (S111) × List Int) : hullBlk nb L is first (m + 1) s = (hullIns nb L (2 * (first + (is.length : Nat) - 1) + 1) (hullBlk nb L is first m s).1 (rd_T87 is (m : Int)) (first + (m : Int)), if (rd_T87 is (m : Int)).f0 = 61 then (hullBlk nb L is first m s).2 ++ [first + (m : Int)] else (hullBlk nb L is first m s).2) := by
  unfold hullBlk
  rw [List.range_succ, List.foldl_append]
  rfl
def firstH (bl : List (S85)) (b : Nat) : Nat := ((List.range b).map fun c => (insAt bl c).length).sum
theorem firstH_succ (bl : List (S85)) (b : Nat) : firstH bl (b + 1) = firstH bl b + (insAt bl b).length := by
  unfold firstH
  rw [List.range_succ, List.map_append, List.sum_append]
  simp
def hullPass (bl : List (S85)) (L : List (List Bool)) (n m : Nat) : List (S111) × List Int :=
  (List.range m).foldl (fun s b => if (insAt bl b).length = 0 then s else hullBlk bl.length L (insAt bl b) (firstH bl b : Nat) (insAt bl b).length (growRow (L.getD b []) (L.getD b []).length s.1 (2 * (firstH bl b : Nat)), s.2)) (List.replicate n ⟨false, 0, 0⟩, [])
theorem hullPass_succ (bl : List (S85)) (L : List (List Bool)) (n m : Nat) : hullPass bl L n (m + 1) = if (insAt bl m).length = 0 then hullPass bl L n m else hullBlk bl.length L (insAt bl m) (firstH bl m : Nat) (insAt bl m).length (growRow (L.getD m []) (L.getD m []).length (hullPass bl L n m).1 (2 * (firstH bl m : Nat)), (hullPass bl L n m).2) := by
  unfold hullPass
  rw [List.range_succ, List.foldl_append]
  rfl
theorem firstH_le {bl : List (S85)} : ∀ (d m : Nat), firstH bl m ≤ firstH bl (m + d)
  | 0, m => Nat.le_refl _
  | d + 1, m => by have := firstH_le (bl := bl) d m; have := firstH_succ bl (m + d); show firstH bl m ≤ firstH bl (m + d + 1); omega
theorem hullIns_len (nb : Nat) (L : List (List Bool)) (last : Int) (H : List (S111)) (i : S87) (a : Int) : (hullIns nb L last H i a).length = H.length := by
  unfold hullIns
  split
  · rw [growRow_len, growL_len, growReads_len]
  · rw [growL_len, growReads_len]
theorem hullBlk_len (nb : Nat) (L : List (List Bool)) (is : List (S87)) (first : Int) (s : List (S111) × List Int) : ∀ m, (hullBlk nb L is first m s).1.length = s.1.length
  | 0 => rfl
  | m + 1 => by rw [hullBlk_succ]; show (hullIns _ _ _ _ _ _).length = _; rw [hullIns_len, hullBlk_len nb L is first s m]
theorem hullPass_len (bl : List (S85)) (L : List (List Bool)) (n : Nat) : ∀ m, (hullPass bl L n m).1.length = n
  | 0 => by simp [hullPass]
  | m + 1 => by
    rw [hullPass_succ]
    split
    · exact hullPass_len bl L n m
    · rw [hullBlk_len, growRow_len]; exact hullPass_len bl L n m
end Go.Proofs.Ythegbhfoleiegaa.All

/- spec.l18Grow: walked by hand. -/
namespace Go.Proofs.Ythegbhfoleiegaa.All
open Go.RowKit Go.Proofs.YthegbhfoleiegaaW.PrintWords Go.Proofs.YthegbhfoleiegaaW.PrintLast Go.Proofs.YthegbhfoleiegaaW.PrintMore
set_option linter.unusedVariables false
set_option linter.unusedSimpArgs false
set_option maxHeartbeats 4000000 in
set_option maxRecDepth 100000 in
theorem grow_calls (base : Nat) (ok : Nat → Prop) (v : Value) (H : List (S111)) (r p : Int) (w : World) (HO : Kd.R k111 111 w base ok v H) (hl : H.length ≤ 1000000000) :
    Calls Try.prog 129 #[v, .int .i64 r, .int .i64 p] w fun e w' => e = .returned (.tuple #[]) ∧ Kd.R k111 111 w' base ok v (growL H r p) ∧ w.grownBy w' v.ownBlock := by
  have hu1 := Try.underlying111
  obtain ⟨A, cc, ev⟩ := Kd.R_slice HO
  subst ev
  have hrefl : w.grownBy w (Value.slice A H.length cc).ownBlock := grown_of_below (Below.refl _ _) _
  have HRF := Aside0.mk hrefl
  have HO1 := Aside0.mk HO
  clear HO hrefl
  by_cases c0 : r < 0
  · have c0b : decide (r < 0) = true := decide_eq_true c0
    have hg : growL H r p = H := if_pos (.inl c0)
    have HG := Aside0.mk hg
    clear hg
    go_enter Try.func129, Try.ntmps129
    go_wp2
    (try simp only [Exit.inBlock, Exit.then])
    first | refine bodyPost_ret (results_none rfl _ _ _) rfl ?_ | refine bodyPost_end (results_none rfl _ _ _) rfl ?_
    exact ⟨rfl, by rw [HG.out]; exact HO1.out, HRF.out⟩
  · have c0b : decide (r < 0) = false := decide_eq_false c0
    by_cases c1 : (H.length : Int) ≤ r
    · have c1b : decide ((H.length : Int) ≤ r) = true := decide_eq_true c1
      have hg : growL H r p = H := if_pos (.inr c1)
      have HG := Aside0.mk hg
      clear hg
      go_enter Try.func129, Try.ntmps129
      go_wp2
      (try simp only [Exit.inBlock, Exit.then])
      first | refine bodyPost_ret (results_none rfl _ _ _) rfl ?_ | refine bodyPost_end (results_none rfl _ _ _) rfl ?_
      exact ⟨rfl, by rw [HG.out]; exact HO1.out, HRF.out⟩
    · have c1b : decide ((H.length : Int) ≤ r) = false := decide_eq_false c1
      have a0 : 0 ≤ r := by omega
      have a1 : r < (H.length : Int) := by omega
      obtain ⟨g, cap, eg, _, _, _⟩ := Kd.R_form HO1.out (by omega)
      injection eg with eg eg2 eg3
      subst eg
      obtain ⟨c, hcl, hM, hcc, hfr⟩ := Kd.R_elem HO1.out z111 r a0 a1
      obtain ⟨x, hx⟩ : ∃ x, x = rd_T111 H r := ⟨_, rfl⟩
      have hc : c = [.bool x.f0, .int .i64 x.f1, .int .i64 x.f2] := by rw [hx]; exact k111_openM hM
      subst hc
      have x0 := hcc 0 _ rfl
      have x1 := hcc 1 _ rfl
      have x2 := hcc 2 _ rfl
      have f0 := hfr 0
      have f1 := hfr 1
      have f2 := hfr 2
      simp only [show (k111).sz = 3 from rfl, Nat.add_zero] at x0 x1 x2 f0 f1 f2
      have HCC := Aside0.mk hcc
      have HCL := Aside0.mk hcl
      have hg : growL H r p = H.set r.toNat (if x.f0 = true then ⟨true, if p < x.f1 then p else x.f1, if x.f2 < p then p else x.f2⟩ else ⟨true, p, p⟩) := by unfold growL; rw [if_neg (by omega), hx]
      have HG := Aside0.mk hg
      have HXX := Aside0.mk hx
      clear hg hx hcc hcl hM hfr eg2 eg3
      cases hf : x.f0 with
      | false =>
        rw [hf] at x0
        have HFF := Aside0.mk hf
        clear hf
        go_enter Try.func129, Try.ntmps129
        go_wp2
        (try simp only [Exit.inBlock, Exit.then])
        first | refine bodyPost_ret (results_none rfl _ _ _) rfl ?_ | refine bodyPost_end (results_none rfl _ _ _) rfl ?_
        have HP := Kd.R_seg HO1.out r a0 a1 (j := 0) (seg := [.bool true, .int .i64 p, .int .i64 p]) HCL.out HCC.out (by show _ ≤ 3; simp) (x' := (⟨true, p, p⟩ : S111)) (okp := fun k => ok k ∧ k ≠ g) (by exact k111_mkM _ _ _ (⟨true, p, p⟩ : S111)) (fun k hk => hk)
        have e2 : growL H r p = H.set r.toNat (⟨true, p, p⟩ : S111) := by rw [HG.out, HFF.out, if_neg (by simp)]
        exact ⟨rfl, by rw [e2]; exact HP.1, HP.2⟩
      | true =>
        rw [hf] at x0
        have HFF := Aside0.mk hf
        clear hf
        by_cases c2 : p < x.f1
        · have c2b : decide (p < x.f1) = true := decide_eq_true c2
          by_cases c3 : x.f2 < p
          · have c3b : decide (x.f2 < p) = true := decide_eq_true c3
            go_enter Try.func129, Try.ntmps129
            go_wp2
            (try simp only [Exit.inBlock, Exit.then])
            first | refine bodyPost_ret (results_none rfl _ _ _) rfl ?_ | refine bodyPost_end (results_none rfl _ _ _) rfl ?_
            have HP := Kd.R_seg HO1.out r a0 a1 (j := 1) (seg := [.int .i64 p, .int .i64 p]) HCL.out HCC.out (by show _ ≤ 3; simp) (x' := (⟨x.f0, p, p⟩ : S111)) (okp := fun k => ok k ∧ k ≠ g) (by exact k111_mkM _ _ _ (⟨x.f0, p, p⟩ : S111)) (fun k hk => hk)
            have e2 : growL H r p = H.set r.toNat (⟨x.f0, p, p⟩ : S111) := by rw [HG.out, HFF.out, if_pos rfl, if_pos c2, if_pos c3]
            exact ⟨rfl, by rw [e2]; exact HP.1, HP.2⟩
          · have c3b : decide (x.f2 < p) = false := decide_eq_false c3
            go_enter Try.func129, Try.ntmps129
            go_wp2
            (try simp only [Exit.inBlock, Exit.then])
            first | refine bodyPost_ret (results_none rfl _ _ _) rfl ?_ | refine bodyPost_end (results_none rfl _ _ _) rfl ?_
            have HP := Kd.R_seg HO1.out r a0 a1 (j := 1) (seg := [.int .i64 p]) HCL.out HCC.out (by show _ ≤ 3; simp) (x' := (⟨x.f0, p, x.f2⟩ : S111)) (okp := fun k => ok k ∧ k ≠ g) (by exact k111_mkM _ _ _ (⟨x.f0, p, x.f2⟩ : S111)) (fun k hk => hk)
            have e2 : growL H r p = H.set r.toNat (⟨x.f0, p, x.f2⟩ : S111) := by rw [HG.out, HFF.out, if_pos rfl, if_pos c2, if_neg (by omega)]
            exact ⟨rfl, by rw [e2]; exact HP.1, HP.2⟩
        · have c2b : decide (p < x.f1) = false := decide_eq_false c2
          by_cases c3 : x.f2 < p
          · have c3b : decide (x.f2 < p) = true := decide_eq_true c3
            go_enter Try.func129, Try.ntmps129
            go_wp2
            (try simp only [Exit.inBlock, Exit.then])
            first | refine bodyPost_ret (results_none rfl _ _ _) rfl ?_ | refine bodyPost_end (results_none rfl _ _ _) rfl ?_
            have HP := Kd.R_seg HO1.out r a0 a1 (j := 2) (seg := [.int .i64 p]) HCL.out HCC.out (by show _ ≤ 3; simp) (x' := (⟨x.f0, x.f1, p⟩ : S111)) (okp := fun k => ok k ∧ k ≠ g) (by exact k111_mkM _ _ _ (⟨x.f0, x.f1, p⟩ : S111)) (fun k hk => hk)
            have e2 : growL H r p = H.set r.toNat (⟨x.f0, x.f1, p⟩ : S111) := by rw [HG.out, HFF.out, if_pos rfl, if_neg (by omega), if_pos c3]
            exact ⟨rfl, by rw [e2]; exact HP.1, HP.2⟩
          · have c3b : decide (x.f2 < p) = false := decide_eq_false c3
            go_enter Try.func129, Try.ntmps129
            go_wp2
            (try simp only [Exit.inBlock, Exit.then])
            first | refine bodyPost_ret (results_none rfl _ _ _) rfl ?_ | refine bodyPost_end (results_none rfl _ _ _) rfl ?_
            have e2 : growL H r p = H := by
              have h1 : growL H r p = H.set r.toNat x := by rw [HG.out, HFF.out, if_pos rfl, if_neg (by omega), if_neg (by omega), ← HFF.out]
              rw [h1, HXX.out]
              exact setSelf H r a0 a1
            exact ⟨rfl, by rw [e2]; exact HO1.out, HRF.out⟩
end Go.Proofs.Ythegbhfoleiegaa.All

/- spec.l18Hulls: walked by hand. -/
namespace Go.Proofs.Ythegbhfoleiegaa.All
open Go.RowKit Go.Proofs.YthegbhfoleiegaaW.PrintWords Go.Proofs.YthegbhfoleiegaaW.PrintLast Go.Proofs.YthegbhfoleiegaaW.PrintMore
set_option linter.unusedVariables false
set_option linter.unusedSimpArgs false
theorem hullBlkC_len (nb : Nat) (L : List (List Bool)) (is : List (S87)) (first : Int) (s : List (S111) × List Int) : ∀ m, (hullBlk nb L is first m s).2.length ≤ s.2.length + m
  | 0 => Nat.le_refl _
  | m + 1 => by
    have ih := hullBlkC_len nb L is first s m
    rw [hullBlk_succ]
    dsimp only
    split
    · rw [List.length_append, List.length_singleton]; omega
    · omega
theorem hullPassC_len (bl : List (S85)) (L : List (List Bool)) (n : Nat) : ∀ m, (hullPass bl L n m).2.length ≤ firstH bl m
  | 0 => by simp [hullPass]
  | m + 1 => by
    have ih := hullPassC_len bl L n m
    have hf := firstH_succ bl m
    rw [hullPass_succ]
    split
    · omega
    · refine Nat.le_trans (hullBlkC_len _ _ _ _ _ _) ?_
      show (hullPass bl L n m).2.length + _ ≤ _
      omega
theorem below_alloc' {w6 W : World} (h : Below w6.heap.size w6 W) (o : Obj) : Below w6.heap.size w6 (W.alloc o) := below_alloc h o
set_option maxHeartbeats 16000000 in
set_option maxRecDepth 100000 in
theorem hulls_calls (k : Nat) (a0_0 : Int) (A0_1 : Option Addr) (c0_1 : Nat) (l0_1 : List Int) (A0_2 : Option Addr) (c0_2 : Nat) (l0_2 : List (S85)) (L : List (List Bool)) (n : Nat) (w : World) (hr0_1 : Kd.C (Kd.int .i64) w A0_1 l0_1.length l0_1) (hc0_1 : l0_1.length ≤ c0_1) (hr0_2 : Kd.C k85 w A0_2 l0_2.length l0_2) (hc0_2 : l0_2.length ≤ c0_2)
    (hL : spec_l18Live.f k a0_0 l0_1 l0_2 = some L) (hM : spec_l18Most.f k a0_0 l0_1 l0_2 = some (n : Int)) (hn9 : n ≤ 1000000000) (hLl : L.length = l0_2.length) (hrow : ∀ c, c < l0_2.length → (L.getD c []).length ≤ 1000000000) (hb9 : l0_2.length ≤ 1000000000) (hf9 : firstH l0_2 l0_2.length ≤ 1000000000)
    (hrd : ∀ b, b < l0_2.length → ∀ i ∈ insAt l0_2 b, spec_Reads.f k i.f0 i.f1 i.f2 i.f3 i.f4 i.f5 i.f6 i.f7 = some (readsL i) ∧ (readsL i).length ≤ 1000000000)
    (hjp : ∀ i : S87, spec_l18Jumps.f a0_0 l0_1 l0_2 i.f0 i.f1 i.f2 i.f3 i.f4 i.f5 i.f6 i.f7 = some (targetOf l0_2.length i)) :
    Calls Try.prog 73 #[.agg #[.int .i64 a0_0, .slice A0_1 l0_1.length c0_1, .slice A0_2 l0_2.length c0_2]] w fun e w' => ∃ v0_ v1_ : Value, e = .returned (.tuple #[v0_, v1_]) ∧ Kd.R k111 111 w' w.heap.size (fun _ => True) v0_ (hullPass l0_2 L n l0_2.length).1 ∧ Kd.R (Kd.int .i64) 2 w' w.heap.size (fun _ => True) v1_ (hullPass l0_2 L n l0_2.length).2 ∧ Below w.heap.size w w' := by
  have hu1 := Try.underlying29
  have hu3 := Try.underlying85
  have hu4 := Try.underlying87
  have HR1 := Aside0.mk hr0_1
  have HR := Aside0.mk hr0_2
  have HL := Aside0.mk hL
  have HM := Aside0.mk hM
  have HROW := Aside0.mk hrow
  have HRD := Aside0.mk hrd
  have HX0 := Aside0.mk (blk_new w (.cells #[.int .i64 a0_0, .slice A0_1 l0_1.length c0_1, .slice A0_2 l0_2.length c0_2] 29 (0, 0)))
  have b0 := (blk_cell HX0.out 0).trans rfl
  have b1 := (blk_cell HX0.out 1).trans rfl
  have b2 := (blk_cell HX0.out 2).trans rfl
  have HB0 := Aside0.mk (below_alloc (Below.refl w.heap.size w) (.cells #[.int .i64 a0_0, .slice A0_1 l0_1.length c0_1, .slice A0_2 l0_2.length c0_2] 29 (0, 0)))
  have HJP := Aside0.mk hjp
  clear hr0_1 hr0_2 hL hM hrow hrd hjp
  go_enter Try.func73, Try.ntmps73
  go_upto_region 4 with (first | (go_at_call 69; refine (spec_l18Live.calls k a0_0 A0_1 c0_1 l0_1 A0_2 c0_2 l0_2 L _ (Kd.C_below HR1.out (by exact HB0.out)) hc0_1 (Kd.C_below HR.out (by exact HB0.out)) hc0_2 HL.out).mono ?_; rintro e w6 ⟨v6, rfl, hs6, hb6⟩; obtain ⟨AL, cL, e6⟩ := Kd.S_slice hs6; subst e6; have hC6 := (Kd.S_reads' hs6).2.2; have HC6 := Aside0.mk hC6; have HB6 := Aside0.mk (below_step HB0.out hb6); have HX6 := Aside0.mk (blk_below HX0.out hb6); have b0 := (blk_cell HX6.out 0).trans rfl; have b1 := (blk_cell HX6.out 1).trans rfl; have b2 := (blk_cell HX6.out 2).trans rfl; clear hs6 hb6 hC6) | (go_at_call 121; refine (spec_l18Most.calls k a0_0 A0_1 c0_1 l0_1 A0_2 c0_2 l0_2 (n : Int) _ (Kd.C_below HR1.out (by exact HB6.out)) hc0_1 (Kd.C_below HR.out (by exact HB6.out)) hc0_2 HM.out).mono ?_; rintro e w7 ⟨rfl, hb7⟩; have HB7 := Aside0.mk hb7; clear hb7) | ((with_reducible refine gate_dst (N := 22) rfl ?_); refine Kd.R_make k111 (w0 := w7) w7.heap.size 111 rfl (N := 22) rfl 107 _ _ rfl (n : Int) rfl rfl Try.underlying107 (.agg #[.bool false, .int .i64 0, .int .i64 0]) 24 info111 rfl (by decide) (by omega) (⟨false, 0, 0⟩ : S111) (ok := fun _ => True) (okp := fun _ => True) (k111_mkM _ _ _ _) (fun _ hk => hk) trivial (by omega) (by omega) (Below.refl _ _) (Nat.le_refl _) ?_; intro vH w8 ho8 hb8 hg8 hnew8; rw [Int.toNat_natCast] at ho8; have HO8 := Aside0.mk ho8; have HB8 := Aside0.mk (below_step HB7.out hb8); clear ho8 hb8 hg8 hnew8) | ((with_reducible refine gate_dst (N := 23) rfl ?_); refine Kd.R_lit (Kd.int .i64) _ 2 ?hg (N := 23) ?hd (xs := ([] : List Int)) (inner := []) (ok := fun _ => True) (okp := fun _ => True) ?hr ?hp (fun _ hk => hk) trivial (Below.refl _ _) (Nat.le_refl _) (by simp) ?_; (case hd => rfl); (case hg => rfl); (case hr => first | (go_simp; done) | (go_simp; rfl)); (case hp => exact (Reps.none _ _)); intro vC w9 ho9 hb9' hg9 hn9'; have HO9 := Aside0.mk ho9; have HB9 := Aside0.mk hb9'; clear ho9 hb9' hg9 hn9'))
  have hB69 := below_step HB8.out HB9.out
  have hvl : ∀ q, vH.ownBlock = some q → w6.heap.size ≤ q ∧ q < w8.heap.size := fun q hq => by have h1 := HO8.out.2.choose_spec.1.lt q hq; have h2 := HB7.out.size; omega
  have HVL := Aside0.mk (fun q hq => (hvl q hq).1 : ∀ q, vH.ownBlock = some q → w6.heap.size ≤ q)
  have hw6 : w.heap.size ≤ w6.heap.size := HB6.out.size
  have HH := Aside0.mk (Kd.R_mono (Kd.R_tight rfl (Kd.R_below (Kd.R_lower HO8.out (Nat.le_trans hw6 HB7.out.size)) HB9.out)) (ok' := fun q => some q = vH.ownBlock) (fun q hq => hq))
  have HC := Aside0.mk (Kd.R_mono (Kd.R_tight rfl (Kd.R_lower HO9.out (Nat.le_trans hw6 HB8.out.size))) (ok' := fun q => some q ≠ vH.ownBlock ∧ w6.heap.size ≤ q) (fun q hq => ⟨fun e => by have h1 := hvl q e.symm; have h2 := own_geR HO9.out q hq.symm; omega, by have h2 := own_geR HO9.out q hq.symm; have h3 := HB7.out.size; have h4 := HB8.out.size; omega⟩))
  have HB := Aside0.mk hB69
  have hx9 := (blk_below HX6.out hB69)
  have b2 := (blk_cell hx9 2).trans rfl
  clear hB69 hvl HO8 HO9 hx9
  go_wp2
  go_loopw [6, 7, 8] (fun v6 v7 v8 wr => ∃ (m : Nat), m ≤ l0_2.length ∧ v8 = .int .i64 (m : Int) ∧ v7 = .int .i64 (firstH l0_2 m : Nat) ∧ Aside0 (Kd.R k111 111 wr w.heap.size (fun q => some q = vH.ownBlock) vH (hullPass l0_2 L n m).1) ∧ Aside0 (Kd.R (Kd.int .i64) 2 wr w.heap.size (fun q => some q ≠ vH.ownBlock ∧ w6.heap.size ≤ q) v6 (hullPass l0_2 L n m).2) ∧ Aside0 (Below w6.heap.size w6 wr)) (fun _ _ v _ => l0_2.length - (intOf v).toNat)
  case atStart => exact ⟨0, Nat.zero_le _, rfl, rfl, HH, HC, HB⟩
  case round =>
    clear HH HC HB b2
    obtain ⟨m, hm, rfl, rfl, HH, HC, HB⟩ := hrel
    have hx9 := (HB.out.block _ (blk_lt HX6.out)).trans HX6.out
    have b2 := (blk_cell hx9 2).trans rfl
    by_cases hlm : m < l0_2.length
    · have p3 : (0 : Int) ≤ (m : Int) := by omega
      have q3 : (m : Int) < (l0_2.length : Int) := by omega
      have hBw := below_step HB6.out HB.out
      obtain ⟨ad, A5, c5, e5, hx0, hl5, hi5⟩ := at_T85 HR.out (m : Int) p3 q3
      have HR5 := Aside0.mk hi5
      cases e5
      have HX0W := Aside0.mk hx0
      replace hx0 := (hBw.cell (World.block_lt_of_cell? w _ hx0)).trans hx0
      rw [Int.toNat_natCast] at hx0
      obtain ⟨is, his⟩ : ∃ is, is = (rd_T85 l0_2 (m : Int)).f0 := ⟨_, rfl⟩
      rw [← his] at hx0 hl5 HR5 HX0W
      have his2 : insAt l0_2 m = is := his.symm
      have hfs := firstH_succ l0_2 m
      rw [his2] at hfs
      have hp9 : firstH l0_2 m + is.length ≤ 1000000000 := by have h := firstH_le (bl := l0_2) (l0_2.length - (m + 1)) (m + 1); rw [show m + 1 + (l0_2.length - (m + 1)) = l0_2.length by omega] at h; omega
      have HIS := Aside0.mk his2
      have hps := hullPass_succ l0_2 L n m
      rw [his2] at hps
      have HPS := Aside0.mk hps
      have HFS := Aside0.mk hfs
      clear his his2 hfs hps hBw hi5
      by_cases hz : is.length = 0
      · have hzb : ((is.length : Int) == 0) = true := by rw [hz]; rfl
        have hps2 : hullPass l0_2 L n (m + 1) = hullPass l0_2 L n m := by rw [HPS.out, if_pos hz]
        have hfs2 : firstH l0_2 (m + 1) = firstH l0_2 m := by rw [HFS.out, hz]; rfl
        have HP2 := Aside0.mk hps2
        have HF2 := Aside0.mk hfs2
        clear hps2 hfs2
        go_wp2
        go_roundw
        case measure => simp [intOf]; omega
        case rel => exact ⟨m + 1, by omega, by go_num, by rw [HF2.out], ⟨by rw [HP2.out]; exact HH.out⟩, ⟨by rw [HP2.out]; exact HC.out⟩, HB⟩
      · have hzb : ((is.length : Int) == 0) = false := beq_eq_false_iff_ne.2 (by omega)
        obtain ⟨adl, cl, el, _, hKl, hcl⟩ := Kd.C_get HC6.out ([] : List Bool) (m : Int) p3 (by omega)
        rw [Int.toNat_natCast] at hKl hcl
        obtain ⟨row, hrow⟩ : ∃ row, row = L.getD m [] := ⟨_, rfl⟩
        rw [← hrow] at hKl
        obtain ⟨A10, c10, rfl, hl10, hC10⟩ := hKl
        cases el
        have hx10 := hcl 0 _ rfl
        change w6.cell? (adl.add (m * 1 + 0)) = _ at hx10
        rw [Nat.mul_one, Nat.add_zero] at hx10
        have hrl9 : row.length ≤ 1000000000 := by rw [hrow]; exact HROW.out m hlm
        obtain ⟨H0, hH0⟩ : ∃ H, H = (hullPass l0_2 L n m).1 := ⟨_, rfl⟩
        obtain ⟨C0, hC0⟩ : ∃ C, C = (hullPass l0_2 L n m).2 := ⟨_, rfl⟩
        have hH9 : H0.length ≤ 1000000000 := by rw [hH0, hullPass_len]; exact hn9
        obtain ⟨fm, hfm⟩ : ∃ fm, fm = firstH l0_2 m := ⟨_, rfl⟩
        rw [← hH0] at HH
        rw [← hC0] at HC
        rw [← hfm] at hp9 ⊢
        have HX10 := Aside0.mk hx10
        have HC10 := Aside0.mk hC10
        have HROWE := Aside0.mk hrow
        have HH0E := Aside0.mk hH0
        have HC0E := Aside0.mk hC0
        have HFME := Aside0.mk hfm
        have HH1 := Aside0.mk HH.out
        clear hrow hx10 hC10 hcl hH0 hC0 hfm
        go_wp2
        clear hx0 b2 hx9
        go_loopw [11] (fun v wr => ∃ (q : Nat), q ≤ row.length ∧ v = .int .i64 (q : Int) ∧ Aside0 (Kd.R k111 111 wr w.heap.size (fun q => some q = vH.ownBlock) vH (growRow row q H0 (2 * (fm : Int)))) ∧ Aside0 (Kd.R (Kd.int .i64) 2 wr w.heap.size (fun q => some q ≠ vH.ownBlock ∧ w6.heap.size ≤ q) u6 C0) ∧ Aside0 (Below w6.heap.size w6 wr)) (fun v _ => row.length - (intOf v).toNat)
        case atStart => exact ⟨0, Nat.zero_le _, rfl, HH1, HC, HB⟩
        case round =>
          clear HH HH1 HC HB
          obtain ⟨q, hq, rfl, HH, HC, HB⟩ := hrel
          have hx11 := (HB.out.cell (World.block_lt_of_cell? w6 _ HX10.out)).trans HX10.out
          by_cases hlq : q < row.length
          · obtain ⟨ad11, cl11, el11, _, hK11, hc11⟩ := Kd.C_get HC10.out false (q : Int) (by omega) (by omega)
            rw [Int.toNat_natCast] at hK11 hc11
            obtain ⟨y, hy⟩ : ∃ y, y = row.getD q false := ⟨_, rfl⟩
            rw [← hy] at hK11
            have hK12 : cl11 = [Value.bool y] := hK11
            subst hK12
            have hx12 := hc11 0 _ rfl
            change w6.cell? (ad11.add (q * 1 + 0)) = _ at hx12
            rw [Nat.mul_one, Nat.add_zero] at hx12
            have hx13 := (HB.out.cell (World.block_lt_of_cell? w6 _ hx12)).trans hx12
            have hgs := growRow_succ row q H0 (2 * (fm : Int))
            rw [← hy] at hgs
            subst el11
            have HGS := Aside0.mk hgs
            have hgl := growRow_len row H0 (2 * (fm : Int)) q
            clear hK11 hc11 hx12 hgs hy
            cases y with
            | true =>
              have hgs2 : growRow row (q + 1) H0 (2 * (fm : Int)) = growL (growRow row q H0 (2 * (fm : Int))) (q : Int) (2 * (fm : Int)) := HGS.out
              have HG2 := Aside0.mk hgs2
              have HGL := Aside0.mk hgl
              clear hgs2 hgl
              go_wp2_with (first | (go_at_call 129; refine (grow_calls w.heap.size (fun q => some q = vH.ownBlock) vH _ (q : Int) (2 * (fm : Int)) _ HH.out (by rw [HGL.out]; exact hH9)).mono ?_; rintro e W5 ⟨rfl, hR5, hg5⟩; have HH5 := Aside0.mk hR5; have HC5 := Aside0.mk (Kd.R_grown HC.out hg5 (fun q hq e => hq.1 e)); have HB5 := Aside0.mk (belowG HB.out hg5 (fun q e => HVL.out q e)); clear hR5 hg5))
              go_roundw
              case measure => simp [intOf]; omega
              case rel => first | exact ⟨q + 1, by omega, by go_num, ⟨by rw [HG2.out]; exact HH5.out⟩, HC5, HB5⟩ | ((repeat apply Exists.intro); exact ⟨⟨q + 1, by omega, by go_num, ⟨by rw [HG2.out]; exact HH5.out⟩, HC5, HB5⟩, rfl⟩)
            | false =>
              have hgs2 : growRow row (q + 1) H0 (2 * (fm : Int)) = growRow row q H0 (2 * (fm : Int)) := HGS.out
              have HG2 := Aside0.mk hgs2
              clear hgs2 hgl
              go_wp2
              go_roundw
              case measure => simp [intOf]; omega
              case rel => first | exact ⟨q + 1, by omega, by go_num, ⟨by rw [HG2.out]; exact HH.out⟩, HC, HB⟩ | ((repeat apply Exists.intro); exact ⟨⟨q + 1, by omega, by go_num, ⟨by rw [HG2.out]; exact HH.out⟩, HC, HB⟩, rfl⟩)
          · have hqe : q = row.length := by omega
            subst hqe
            obtain ⟨H1, hH1⟩ : ∃ H1, H1 = growRow row row.length H0 (2 * (fm : Int)) := ⟨_, rfl⟩
            have hH19 : H1.length ≤ 1000000000 := by rw [hH1, growRow_len]; exact hH9
            rw [← hH1] at HH
            have HH1E := Aside0.mk hH1
            clear hH1
            go_wp2
            clear hx11
            go_loopw [6, 7, 12] (fun v6 v7 v12 wr => ∃ (j : Nat), j ≤ is.length ∧ v12 = .int .i64 (j : Int) ∧ v7 = .int .i64 ((fm + j : Nat) : Int) ∧ Aside0 (Kd.R k111 111 wr w.heap.size (fun q => some q = vH.ownBlock) vH (hullBlk l0_2.length L is (fm : Int) j (H1, C0)).1) ∧ Aside0 (Kd.R (Kd.int .i64) 2 wr w.heap.size (fun q => some q ≠ vH.ownBlock ∧ w6.heap.size ≤ q) v6 (hullBlk l0_2.length L is (fm : Int) j (H1, C0)).2) ∧ Aside0 (Below w6.heap.size w6 wr)) (fun _ _ v _ => is.length - (intOf v).toNat)
            case atStart => exact ⟨0, Nat.zero_le _, rfl, rfl, HH, HC, HB⟩
            case round =>
              clear HH HC HB
              obtain ⟨j, hj, rfl, rfl, HH, HC, HB⟩ := hrel
              by_cases hlj : j < is.length
              · obtain ⟨p, hp⟩ : ∃ p, p = fm + j := ⟨_, rfl⟩
                have hpn : p + 1 ≤ 1000000000 := by omega
                rw [← hp]
                have p4 : (0 : Int) ≤ (j : Int) := by omega
                have q4 : (j : Int) < (is.length : Int) := by omega
                have hBw2 := below_step HB6.out HB.out
                obtain ⟨ad7, A7, c7, e7, hy0, hy1, hy2, hy3, hy4, hy5, hy6, hy7, hl7, hi7⟩ := at_T87 HR5.out (j : Int) p4 q4
                cases e7
                obtain ⟨i, hi⟩ : ∃ i, i = rd_T87 is (j : Int) := ⟨_, rfl⟩
                rw [← hi] at hy0 hy1 hy2 hy3 hy4 hy5 hy6 hy7 hl7 hi7
                have him : i ∈ is := by rw [hi]; unfold rd_T87; rw [Int.toNat_natCast, List.getD_eq_getElem?_getD, List.getElem?_eq_getElem hlj]; exact List.getElem_mem _
                obtain ⟨Hj, hHj⟩ : ∃ H, H = (hullBlk l0_2.length L is (fm : Int) j (H1, C0)).1 := ⟨_, rfl⟩
                obtain ⟨Cj, hCj⟩ : ∃ C, C = (hullBlk l0_2.length L is (fm : Int) j (H1, C0)).2 := ⟨_, rfl⟩
                have hHj9 : Hj.length ≤ 1000000000 := by rw [hHj, hullBlk_len]; exact hH19
                have hCj9 : Cj.length ≤ 1000000000 := by have h1 : (hullBlk l0_2.length L is (fm : Int) j (H1, C0)).2.length ≤ C0.length + j := hullBlkC_len _ _ _ _ _ _; have h2 : C0.length ≤ fm := (by rw [HC0E.out, HFME.out]; exact hullPassC_len _ _ _ _); rw [hCj]; omega
                rw [← hHj] at HH
                rw [← hCj] at HC
                have hbs := hullBlk_succ l0_2.length L is (fm : Int) j (H1, C0)
                rw [← hHj, ← hCj, ← hi, show (fm : Int) + (j : Int) = (p : Int) from by omega] at hbs
                obtain ⟨rs, hrs⟩ : ∃ rs, rs = readsL i := ⟨_, rfl⟩
                obtain ⟨hrd1, hrd2⟩ := HRD.out m hlm i (by rw [HIS.out]; exact him)
                rw [← hrs] at hrd1 hrd2
                have HBS := Aside0.mk hbs
                have HPP := Aside0.mk hp
                have HRSE := Aside0.mk hrs
                have HOI := Aside0.mk hrd1
                have HI7 := Aside0.mk hi7
                have hx0 := (hBw2.cell (World.block_lt_of_cell? w _ HX0W.out)).trans HX0W.out
                rw [Int.toNat_natCast] at hx0
                have hx9 := (HB.out.block _ (blk_lt HX6.out)).trans HX6.out
                have b2 := (blk_cell hx9 2).trans rfl
                replace hy0 := (hBw2.cell (World.block_lt_of_cell? w _ hy0)).trans hy0
                replace hy1 := (hBw2.cell (World.block_lt_of_cell? w _ hy1)).trans hy1
                replace hy2 := (hBw2.cell (World.block_lt_of_cell? w _ hy2)).trans hy2
                replace hy3 := (hBw2.cell (World.block_lt_of_cell? w _ hy3)).trans hy3
                replace hy4 := (hBw2.cell (World.block_lt_of_cell? w _ hy4)).trans hy4
                replace hy5 := (hBw2.cell (World.block_lt_of_cell? w _ hy5)).trans hy5
                replace hy6 := (hBw2.cell (World.block_lt_of_cell? w _ hy6)).trans hy6
                replace hy7 := (hBw2.cell (World.block_lt_of_cell? w _ hy7)).trans hy7
                rw [Int.toNat_natCast] at hy0 hy1 hy2 hy3 hy4 hy5 hy6 hy7
                obtain ⟨q13, hq13⟩ : ∃ q13, q13 = wr.heap.size := ⟨_, rfl⟩
                have hbx := blk_new wr (.cells #[.int .i64 i.f0, .int .i64 i.f1, .int .i64 i.f2, .int .i64 i.f3, .int .i64 i.f4, .int .i64 i.f5, .string i.f6, .slice A7 i.f7.length c7] 87 (0, 0))
                have HH5 := Aside0.mk (Kd.R_alloc HH.out (.cells #[.int .i64 i.f0, .int .i64 i.f1, .int .i64 i.f2, .int .i64 i.f3, .int .i64 i.f4, .int .i64 i.f5, .string i.f6, .slice A7 i.f7.length c7] 87 (0, 0)))
                have HC5 := Aside0.mk (Kd.R_alloc HC.out (.cells #[.int .i64 i.f0, .int .i64 i.f1, .int .i64 i.f2, .int .i64 i.f3, .int .i64 i.f4, .int .i64 i.f5, .string i.f6, .slice A7 i.f7.length c7] 87 (0, 0)))
                have HB5 := Aside0.mk (below_alloc' HB.out (.cells #[.int .i64 i.f0, .int .i64 i.f1, .int .i64 i.f2, .int .i64 i.f3, .int .i64 i.f4, .int .i64 i.f5, .string i.f6, .slice A7 i.f7.length c7] 87 (0, 0)))
                have HBX5 := Aside0.mk hbx
                have hvq : ∀ q, vH.ownBlock = some q → q < q13 := fun q hq => by rw [hq13]; exact (HH.out.2.choose_spec.1.lt q hq).2
                have HVQ := Aside0.mk hvq
                have hvc : ∀ q, u6.ownBlock = some q → q < q13 := fun q hq => by rw [hq13]; exact (HC.out.2.choose_spec.1.lt q hq).2
                have HVC := Aside0.mk hvc
                clear hvc
                have z0 := (blk_cell hbx 0).trans rfl
                have z1 := (blk_cell hbx 1).trans rfl
                have z2 := (blk_cell hbx 2).trans rfl
                have z3 := (blk_cell hbx 3).trans rfl
                have z4 := (blk_cell hbx 4).trans rfl
                have z5 := (blk_cell hbx 5).trans rfl
                have z6 := (blk_cell hbx 6).trans rfl
                have z7 := (blk_cell hbx 7).trans rfl
                have zf := blk_frozen (blk_new wr (.cells #[.int .i64 0, .int .i64 0, .int .i64 0, .int .i64 0, .int .i64 0, .int .i64 0, .string ⟨#[]⟩, .slice none 0 0] 87 (0, 0))) 0
                have HQ13 := Aside0.mk hq13
                clear hi him hHj hCj hbs hrs hrd1 hi7 hBw2 hp hx9 hbx HH HC HB hq13 hvq
                go_wp2_with (first | (go_at_call 116; refine (spec_Reads.calls k i.f0 i.f1 i.f2 i.f3 i.f4 i.f5 i.f6 A7 c7 i.f7 rs _ (Kd.C_below HI7.out (by exact below_step HB6.out HB5.out)) hl7 HOI.out).mono ?_; rintro e W6 ⟨v6, rfl, hr6, hb6⟩; obtain ⟨A6, c6, e6⟩ := Kd.R_slice hr6; subst e6; have HH6 := Aside0.mk (Kd.R_below HH5.out hb6); have HC6' := Aside0.mk (Kd.R_below HC5.out hb6); have HB6' := Aside0.mk (below_step HB5.out hb6); have HBX6 := Aside0.mk (by have h := blk_below HBX5.out hb6; rw [← HQ13.out] at h; exact h); have hlo6 : ∀ q, (Value.slice A6 rs.length c6).ownBlock = some q → q13 < q := (fun q hq => by have h1 := own_geR hr6 q hq; have h2 := HQ13.out; simp at h1; omega); have HLO6 := Aside0.mk hlo6; have HR6 := Aside0.mk (Kd.R_mono (Kd.R_tight rfl (Kd.R_lower hr6 (show w.heap.size ≤ _ from (below_step HB6.out HB5.out).size))) (ok' := fun q => some q = (Value.slice A6 rs.length c6).ownBlock) (fun q hq => hq)); clear hr6 hb6 hlo6 HH5 HC5 HB5 HBX5 z0 z1 z2 z3 z4 z5 z6 z7 zf hy0 hy1 hy2 hy3 hy4 hy5 hy6 hy7 hx0 b2))
                rw [← HQ13.out]
                have hqW : q13 < W6.heap.size := blk_lt HBX6.out
                go_loopw [15] (fun v wr => ∃ (t : Nat), t ≤ rs.length ∧ v = .int .i64 (t : Int) ∧ Aside0 (Kd.R k111 111 wr w.heap.size (fun q => some q = vH.ownBlock) vH (growReads rs t Hj (2 * (p : Int)))) ∧ Aside0 (Kd.R (Kd.int .i64) 2 wr w.heap.size (fun q => some q ≠ vH.ownBlock ∧ w6.heap.size ≤ q) u6 Cj) ∧ Aside0 (Below w6.heap.size w6 wr) ∧ Aside0 (wr.heap[q13]? = some (.cells #[.int .i64 i.f0, .int .i64 i.f1, .int .i64 i.f2, .int .i64 i.f3, .int .i64 i.f4, .int .i64 i.f5, .string i.f6, .slice A7 i.f7.length c7] 87 (0, 0))) ∧ Aside0 (Kd.R (Kd.int .i64) 2 wr w.heap.size (fun q => some q = (Value.slice A6 rs.length c6).ownBlock) (.slice A6 rs.length c6) rs)) (fun v _ => rs.length - (intOf v).toNat)
                case atStart => exact ⟨0, Nat.zero_le _, rfl, ⟨HH6.out⟩, HC6', HB6', HBX6, HR6⟩
                case round =>
                  clear HH6 HC6' HB6' HBX6 HR6 hqW
                  obtain ⟨t, ht, rfl, HH, HC, HB, HBX, HR6⟩ := hrel
                  by_cases hlt2 : t < rs.length
                  · obtain ⟨g9, cap9, e9, _, _, _⟩ := Kd.R_form HR6.out (by omega)
                    injection e9 with e9 e10 e11
                    subst e9
                    obtain ⟨cx, _⟩ := Kd.R_celln 0 HR6.out (t : Int) (by omega) (by omega)
                    obtain ⟨x, hx⟩ : ∃ x, x = rs[t] := ⟨_, rfl⟩
                    have hrx : rdOf 0 rs (t : Int) = x := by rw [hx]; simp [rdOf, List.getElem?_eq_getElem hlt2]
                    rw [hrx, Int.toNat_natCast] at cx
                    have hgr : growReads rs (t + 1) Hj (2 * (p : Int)) = growL (growReads rs t Hj (2 * (p : Int))) x (2 * (p : Int)) := by rw [growReads_succ rs t Hj _ hlt2, ← hx]
                    have HGR := Aside0.mk hgr
                    clear hx hrx hgr e10 e11
                    go_wp2_with (first | (go_at_call 129; refine (grow_calls w.heap.size (fun q => some q = vH.ownBlock) vH _ x (2 * (p : Int)) _ HH.out (by rw [growReads_len]; exact hHj9)).mono ?_; rintro e W5 ⟨rfl, hR5, hg5⟩; have HH5 := Aside0.mk hR5; have HC5 := Aside0.mk (Kd.R_grown HC.out hg5 (fun q hq e => hq.1 e)); have HB5 := Aside0.mk (belowG HB.out hg5 (fun q e => HVL.out q e)); have HBX5 := Aside0.mk (blk_grown HBX.out hg5 (by intro e; have := HVQ.out q13 e.symm; omega)); have HR5' := Aside0.mk (Kd.R_grown2 HR6.out rfl hg5 (fun q e1 e2 => by have h1 := HVQ.out q e1; have h2 := HLO6.out q e2.symm; omega)); clear hR5 hg5))
                    go_roundw
                    case measure => simp [intOf]; omega
                    case rel => first | exact ⟨t + 1, by omega, by go_num, ⟨by rw [HGR.out]; exact HH5.out⟩, HC5, HB5, HBX5, HR5'⟩ | ((repeat apply Exists.intro); exact ⟨⟨t + 1, by omega, by go_num, ⟨by rw [HGR.out]; exact HH5.out⟩, HC5, HB5, HBX5, HR5'⟩, rfl⟩)
                  · have hte : t = rs.length := by omega
                    subst hte
                    have z0 := (blk_cell HBX.out 0).trans rfl
                    have z1 := (blk_cell HBX.out 1).trans rfl
                    clear HR6
                    go_upto_if 106 with (first | (go_at_call 129; refine (grow_calls w.heap.size (fun q => some q = vH.ownBlock) vH _ i.f1 (2 * (p : Int) + 1) _ HH.out (by rw [growReads_len]; exact hHj9)).mono ?_; rintro e W5 ⟨rfl, hR5, hg5⟩; have HH5 := Aside0.mk hR5; have HC5 := Aside0.mk (Kd.R_grown HC.out hg5 (fun q hq e => hq.1 e)); have HB5 := Aside0.mk (belowG HB.out hg5 (fun q e => HVL.out q e)); have HBX5 := Aside0.mk (blk_grown HBX.out hg5 (by intro e; have := HVQ.out q13 e.symm; omega)); have z0 := (blk_cell HBX5.out 0).trans rfl; clear hR5 hg5))
                    obtain ⟨H2, hH2⟩ : ∃ H2, H2 = (growL (growReads rs rs.length Hj (2 * (p : Int))) i.f1 (2 * (p : Int) + 1)) := ⟨_, rfl⟩
                    have hH29 : H2.length ≤ 1000000000 := by rw [hH2, growL_len, growReads_len]; exact hHj9
                    rw [← hH2] at HH5
                    have HH2E := Aside0.mk hH2
                    clear hH2 HH HC HB HBX z1
                    have HH := HH5
                    have HC := HC5
                    have HB := HB5
                    have HBX := HBX5
                    clear HH5 HC5 HB5 HBX5
                    go_cut [6] (fun v6 wc => Aside0 (Kd.R k111 111 wc w.heap.size (fun q => some q = vH.ownBlock) vH H2) ∧ Aside0 (Kd.R (Kd.int .i64) 2 wc w.heap.size (fun q => some q ≠ vH.ownBlock ∧ w6.heap.size ≤ q) v6 (if i.f0 = 61 then Cj ++ [(p : Int)] else Cj)) ∧ Aside0 (Below w6.heap.size w6 wc) ∧ Aside0 (wc.heap[q13]? = some (.cells #[.int .i64 i.f0, .int .i64 i.f1, .int .i64 i.f2, .int .i64 i.f3, .int .i64 i.f4, .int .i64 i.f5, .string i.f6, .slice A7 i.f7.length c7] 87 (0, 0))))
                    case first =>
                      by_cases dd : i.f0 = 61
                      · have ddb : (i.f0 == 61) = true := by rw [dd]; rfl
                        obtain ⟨AC, cC, eC⟩ := Kd.R_slice HC.out
                        subst eC
                        have HDD := Aside0.mk dd
                        have HBw0 := Aside0.mk (below_step HB6.out HB.out)
                        clear dd
                        go_wp2_with (first | (at_builtin; refine Kd.R_append (Kd.int .i64) (w0 := w) w.heap.size rfl (.tmp 107) (.tmp 109) 22 2 (.int .i64 0) 8 rfl Try.underlying22 info2 rfl (by decide) (by decide) (.slice AC Cj.length cC) Cj (p : Int) [.int .i64 (p : Int)] (fun q => some q ≠ vH.ownBlock ∧ w6.heap.size ≤ q) (fun _ => False) rfl rfl ?aP (fun _ hk => hk.elim) ?aF ?aO ?aB ?aS ?aL ?_; (case aP => exact rfl); (case aF => exact (fun q hq => ⟨fun e => by have h1 := (HH.out.2.choose_spec.1.lt q e.symm).2; omega, by have h2 := HB.out.size; omega⟩)); (case aO => exact HC.out); (case aB => exact HBw0.out); (case aS => exact HBw0.out.size); (case aL => omega); intro v8 W8 ho8 hb8 hg8 hat8; have HC8 := Aside0.mk ho8; have HH8 := Aside0.mk (Kd.R_grown HH.out hg8 (fun q hq e => (HC.out.1 q e.symm).1 hq)); have HB8 := Aside0.mk (belowG HB.out hg8 (fun q e => (HC.out.1 q e).2)); have HBX8 := Aside0.mk (blk_grown HBX.out hg8 (by intro e; have := HVC.out q13 e.symm; omega)); clear ho8 hat8 hb8 hg8))
                        go_meet
                        case rel => exact ⟨HH8, ⟨by rw [if_pos HDD.out]; exact HC8.out⟩, HB8, HBX8⟩
                      · have ddb : (i.f0 == 61) = false := beq_eq_false_iff_ne.2 dd
                        have HDD := Aside0.mk dd
                        clear dd
                        go_wp2
                        go_meet
                        case rel => exact ⟨HH, ⟨by rw [if_neg HDD.out]; exact HC.out⟩, HB, HBX⟩
                    case rest =>
                      clear HH HC HB HBX z0
                      obtain ⟨HH, HC, HB, HBX⟩ := hcut
                      obtain ⟨tw, hto⟩ : ∃ tw, tw = targetOf l0_2.length i := ⟨_, rfl⟩
                      have hjo := HJP.out i
                      rw [← hto] at hjo
                      have HJO := Aside0.mk hjo
                      have hhi : hullIns l0_2.length L (2 * ((fm : Int) + (is.length : Int) - 1) + 1) Hj i (p : Int) = if 0 ≤ tw then growRow (L.getD tw.toNat []) (L.getD tw.toNat []).length H2 (2 * ((fm : Int) + (is.length : Int) - 1) + 1) else H2 := by unfold hullIns; rw [hto, HH2E.out, HRSE.out]
                      have htl : 0 ≤ tw → tw < (l0_2.length : Int) := fun h => by rw [hto] at h ⊢; unfold targetOf at h ⊢; split at h; rename_i hc; rw [if_pos hc]; exact hc.2.2; omega
                      have HHI := Aside0.mk hhi
                      have hx9 := (HB.out.block _ (blk_lt HX6.out)).trans HX6.out
                      have b0 := (blk_cell hx9 0).trans rfl
                      have b1 := (blk_cell hx9 1).trans rfl
                      have b2 := (blk_cell hx9 2).trans rfl
                      have z0 := (blk_cell HBX.out 0).trans rfl
                      have z1 := (blk_cell HBX.out 1).trans rfl
                      have z2 := (blk_cell HBX.out 2).trans rfl
                      have z3 := (blk_cell HBX.out 3).trans rfl
                      have z4 := (blk_cell HBX.out 4).trans rfl
                      have z5 := (blk_cell HBX.out 5).trans rfl
                      have z6 := (blk_cell HBX.out 6).trans rfl
                      have z7 := (blk_cell HBX.out 7).trans rfl
                      have HBW3 := Aside0.mk (below_step HB6.out HB.out)
                      clear hx9 hjo hhi hto
                      by_cases tt : 0 ≤ tw
                      · obtain ⟨t2, rfl⟩ := Int.eq_ofNat_of_zero_le tt
                        have ht2 : t2 < l0_2.length := by have := htl tt; omega
                        clear htl
                        obtain ⟨ad2, cl2, el2, _, hKl2, hcl2⟩ := Kd.C_get HC6.out ([] : List Bool) (t2 : Int) (by omega) (by omega)
                        rw [Int.toNat_natCast] at hKl2 hcl2
                        obtain ⟨row2, hrow2⟩ : ∃ row, row = L.getD t2 [] := ⟨_, rfl⟩
                        rw [← hrow2] at hKl2
                        obtain ⟨A20, c20, rfl, hl20, hC20⟩ := hKl2
                        cases el2
                        have hx20 := hcl2 0 _ rfl
                        change w6.cell? (adl.add (t2 * 1 + 0)) = _ at hx20
                        rw [Nat.mul_one, Nat.add_zero] at hx20
                        have hrl29 : row2.length ≤ 1000000000 := by rw [hrow2]; exact HROW.out t2 ht2
                        have hhi2 : hullIns l0_2.length L (2 * ((fm : Int) + (is.length : Int) - 1) + 1) Hj i (p : Int) = growRow row2 row2.length H2 (2 * ((fm : Int) + (is.length : Int) - 1) + 1) := by rw [HHI.out, if_pos tt, Int.toNat_natCast, ← hrow2]
                        have HHI2 := Aside0.mk hhi2
                        have HX20 := Aside0.mk hx20
                        have HC20 := Aside0.mk hC20
                        have ttb : decide ((0 : Int) ≤ (t2 : Int)) = true := decide_eq_true tt
                        clear hrow2 hx20 hC20 hcl2 hhi2
                        go_wp2_with (first | (go_at_call 128; refine (spec_l18Jumps.calls _ _ _ _ _ _ _ _ _ _ _ _ _ _ _ _ _ _ _ (Kd.C_below HR1.out (by exact HBW3.out)) hc0_1 (Kd.C_below HR.out (by exact HBW3.out)) hc0_2 (Kd.C_below HI7.out (by exact HBW3.out)) hl7 HJO.out).mono ?_; rintro e W9 ⟨rfl, hb9⟩; have HH9 := Aside0.mk (Kd.R_below HH.out hb9); have HC9 := Aside0.mk (Kd.R_below HC.out hb9); have HB9 := Aside0.mk (below_step HB.out hb9); clear hb9))
                        clear b0 b1 b2 z0 z1 z2 z3 z4 z5 z6 z7 HH HC HB HBX HBW3
                        go_loopw [17] (fun v wr => ∃ (q : Nat), q ≤ row2.length ∧ v = .int .i64 (q : Int) ∧ Aside0 (Kd.R k111 111 wr w.heap.size (fun q => some q = vH.ownBlock) vH (growRow row2 q H2 (2 * ((fm : Int) + (is.length : Int) - 1) + 1))) ∧ Aside0 (Kd.R (Kd.int .i64) 2 wr w.heap.size (fun q => some q ≠ vH.ownBlock ∧ w6.heap.size ≤ q) u6 (if i.f0 = 61 then Cj ++ [(p : Int)] else Cj)) ∧ Aside0 (Below w6.heap.size w6 wr)) (fun v _ => row2.length - (intOf v).toNat)
                        case atStart => exact ⟨0, Nat.zero_le _, rfl, HH9, HC9, HB9⟩
                        case round =>
                          clear HH9 HC9 HB9
                          obtain ⟨q, hq, rfl, HH, HC, HB⟩ := hrel
                          have hx11 := (HB.out.cell (World.block_lt_of_cell? w6 _ HX20.out)).trans HX20.out
                          have hqi : (0 : Int) ≤ (q : Int) := by omega
                          by_cases hlq : q < row2.length
                          · obtain ⟨ad11, cl11, el11, _, hK11, hc11⟩ := Kd.C_get HC20.out false (q : Int) (by omega) (by omega)
                            rw [Int.toNat_natCast] at hK11 hc11
                            obtain ⟨y, hy⟩ : ∃ y, y = row2.getD q false := ⟨_, rfl⟩
                            rw [← hy] at hK11
                            have hK12 : cl11 = [Value.bool y] := hK11
                            subst hK12
                            have hx12 := hc11 0 _ rfl
                            change w6.cell? (ad11.add (q * 1 + 0)) = _ at hx12
                            rw [Nat.mul_one, Nat.add_zero] at hx12
                            have hx13 := (HB.out.cell (World.block_lt_of_cell? w6 _ hx12)).trans hx12
                            have hgs := growRow_succ row2 q H2 (2 * ((fm : Int) + (is.length : Int) - 1) + 1)
                            rw [← hy] at hgs
                            subst el11
                            have HGS := Aside0.mk hgs
                            have hgl := growRow_len row2 H2 (2 * ((fm : Int) + (is.length : Int) - 1) + 1) q
                            clear hK11 hc11 hx12 hgs hy
                            cases y with
                            | true =>
                              have hgs2 : growRow row2 (q + 1) H2 (2 * ((fm : Int) + (is.length : Int) - 1) + 1) = growL (growRow row2 q H2 (2 * ((fm : Int) + (is.length : Int) - 1) + 1)) (q : Int) (2 * ((fm : Int) + (is.length : Int) - 1) + 1) := HGS.out
                              have HG2 := Aside0.mk hgs2
                              have HGL := Aside0.mk hgl
                              clear hgs2 hgl
                              go_wp2_with (first | (go_at_call 129; refine (grow_calls w.heap.size (fun q => some q = vH.ownBlock) vH _ (q : Int) (2 * ((fm : Int) + (is.length : Int) - 1) + 1) _ HH.out (by rw [HGL.out]; exact hH29)).mono ?_; rintro e W5 ⟨rfl, hR5, hg5⟩; have HH5 := Aside0.mk hR5; have HC5 := Aside0.mk (Kd.R_grown HC.out hg5 (fun q hq e => hq.1 e)); have HB5 := Aside0.mk (belowG HB.out hg5 (fun q e => HVL.out q e)); clear hR5 hg5))
                              go_roundw
                              case measure => simp [intOf]; omega
                              case rel => first | exact ⟨q + 1, by omega, by go_num, ⟨by rw [HG2.out]; exact HH5.out⟩, HC5, HB5⟩ | ((repeat apply Exists.intro); exact ⟨⟨q + 1, by omega, by go_num, ⟨by rw [HG2.out]; exact HH5.out⟩, HC5, HB5⟩, rfl⟩)
                            | false =>
                              have hgs2 : growRow row2 (q + 1) H2 (2 * ((fm : Int) + (is.length : Int) - 1) + 1) = growRow row2 q H2 (2 * ((fm : Int) + (is.length : Int) - 1) + 1) := HGS.out
                              have HG2 := Aside0.mk hgs2
                              clear hgs2 hgl
                              go_wp2
                              go_roundw
                              case measure => simp [intOf]; omega
                              case rel => first | exact ⟨q + 1, by omega, by go_num, ⟨by rw [HG2.out]; exact HH.out⟩, HC, HB⟩ | ((repeat apply Exists.intro); exact ⟨⟨q + 1, by omega, by go_num, ⟨by rw [HG2.out]; exact HH.out⟩, HC, HB⟩, rfl⟩)
                          · have hqe : q = row2.length := by omega
                            subst hqe
                            have hbs2 : hullBlk l0_2.length L is (fm : Int) (j + 1) (H1, C0) = (growRow row2 row2.length H2 (2 * ((fm : Int) + (is.length : Int) - 1) + 1), (if i.f0 = 61 then Cj ++ [(p : Int)] else Cj)) := by rw [HBS.out, HHI2.out]
                            have HBS2 := Aside0.mk hbs2
                            clear hbs2
                            go_wp2
                            go_roundw
                            case measure => simp [intOf]; omega
                            case rel => first | exact ⟨j + 1, by omega, by go_num, by have h := HPP.out; subst h; go_num, ⟨by rw [HBS2.out]; exact HH.out⟩, ⟨by rw [HBS2.out]; exact HC.out⟩, HB⟩ | ((repeat apply Exists.intro); exact ⟨⟨j + 1, by omega, by go_num, by have h := HPP.out; subst h; go_num, ⟨by rw [HBS2.out]; exact HH.out⟩, ⟨by rw [HBS2.out]; exact HC.out⟩, HB⟩, rfl⟩)
                      · have ttb : decide ((0 : Int) ≤ tw) = false := decide_eq_false tt
                        have hbs2 : hullBlk l0_2.length L is (fm : Int) (j + 1) (H1, C0) = (H2, (if i.f0 = 61 then Cj ++ [(p : Int)] else Cj)) := by rw [HBS.out, HHI.out, if_neg tt]
                        have HBS2 := Aside0.mk hbs2
                        clear hbs2 htl
                        go_wp2_with (first | (go_at_call 128; refine (spec_l18Jumps.calls _ _ _ _ _ _ _ _ _ _ _ _ _ _ _ _ _ _ _ (Kd.C_below HR1.out (by exact HBW3.out)) hc0_1 (Kd.C_below HR.out (by exact HBW3.out)) hc0_2 (Kd.C_below HI7.out (by exact HBW3.out)) hl7 HJO.out).mono ?_; rintro e W9 ⟨rfl, hb9⟩; have HH9 := Aside0.mk (Kd.R_below HH.out hb9); have HC9 := Aside0.mk (Kd.R_below HC.out hb9); have HB9 := Aside0.mk (below_step HB.out hb9); clear hb9))
                        clear b0 b1 b2 z0 z1 z2 z3 z4 z5 z6 z7 HH HC HB HBX HBW3
                        go_loopw [17] (fun v wr => v = .int .i64 0 ∧ Aside0 (Kd.R k111 111 wr w.heap.size (fun q => some q = vH.ownBlock) vH H2) ∧ Aside0 (Kd.R (Kd.int .i64) 2 wr w.heap.size (fun q => some q ≠ vH.ownBlock ∧ w6.heap.size ≤ q) u6 (if i.f0 = 61 then Cj ++ [(p : Int)] else Cj)) ∧ Aside0 (Below w6.heap.size w6 wr)) (fun _ _ => 0)
                        case atStart => exact ⟨rfl, HH9, HC9, HB9⟩
                        case round =>
                          clear HH9 HC9 HB9
                          obtain ⟨rfl, HH, HC, HB⟩ := hrel
                          go_wp2
                          go_roundw
                          case measure => simp [intOf]; omega
                          case rel => first | exact ⟨j + 1, by omega, by go_num, by have h := HPP.out; subst h; go_num, ⟨by rw [HBS2.out]; exact HH.out⟩, ⟨by rw [HBS2.out]; exact HC.out⟩, HB⟩ | ((repeat apply Exists.intro); exact ⟨⟨j + 1, by omega, by go_num, by have h := HPP.out; subst h; go_num, ⟨by rw [HBS2.out]; exact HH.out⟩, ⟨by rw [HBS2.out]; exact HC.out⟩, HB⟩, rfl⟩)
              · have hje : j = is.length := by omega
                subst hje
                have hp2 : hullPass l0_2 L n (m + 1) = hullBlk l0_2.length L is (fm : Int) is.length (H1, C0) := by rw [HPS.out, if_neg hz, HH1E.out, HH0E.out, HC0E.out, HROWE.out, HFME.out]
                have hf2 : firstH l0_2 (m + 1) = fm + is.length := by rw [HFS.out, HFME.out]
                have HP2 := Aside0.mk hp2
                have HF2 := Aside0.mk hf2
                clear hp2 hf2
                go_wp2
                go_roundw
                case measure => simp [intOf]; omega
                case rel => first | exact ⟨m + 1, by omega, by go_num, by rw [HF2.out], ⟨by rw [HP2.out]; exact HH.out⟩, ⟨by rw [HP2.out]; exact HC.out⟩, HB⟩ | ((repeat apply Exists.intro); exact ⟨⟨m + 1, by omega, by go_num, by rw [HF2.out], ⟨by rw [HP2.out]; exact HH.out⟩, ⟨by rw [HP2.out]; exact HC.out⟩, HB⟩, rfl⟩)
    · have hme : m = l0_2.length := by omega
      subst hme
      go_wp2
      go_returns
      exact ⟨_, _, rfl, Kd.R_mono HH.out (fun _ _ => trivial), Kd.R_mono HC.out (fun _ _ => trivial), below_step HB6.out HB.out⟩
end Go.Proofs.Ythegbhfoleiegaa.All

/- Maps from whole numbers to whole numbers that a call makes: as functions. -/
namespace Go.Proofs.Ythegbhfoleiegaa.All
open Go.RowKit Go.Proofs.YthegbhfoleiegaaW.PrintWords Go.Proofs.YthegbhfoleiegaaW.PrintLast Go.Proofs.YthegbhfoleiegaaW.PrintMore
set_option linter.unusedVariables false
set_option linter.unusedSimpArgs false
open Go.Maps (Keyed)
/-- Map b reads as the function g (0 where nothing is held); its keys are ks. -/
def IsMapI (P : Program) (k e : TypeId) (w : World) (b : Nat) (ks : List Int) (g : Int → Int) : Prop :=
  ∃ D : DataW Unit, w.ownsMap P k (plainElem P e) b ks.length D ∧ Maps.size D = ks.length ∧ ks.Nodup ∧ (∀ x, Maps.has D (.int .i64 x) = decide (x ∈ ks)) ∧ ∀ x, (Lit.int .i64 x).wf = true → D.atKey (.int .i64 x) (.lit (.int .i64 0)) = .lit (.int .i64 (g x))
def updI (g : Int → Int) (x v : Int) : Int → Int := fun y => if y = x then v else g y
section
variable {P : Program} {k e : TypeId} {w w1 : World} {b : Nat} {ks : List Int} {g : Int → Int}
theorem IsMapI.made (w : World) (P : Program) (k e : TypeId) : IsMapI P k e (w.alloc (.map #[] 0)) w.heap.size [] (fun _ => 0) :=
  ⟨.map [], World.ownsMap_made w P k _, rfl, List.nodup_nil, (fun x => by simp [Maps.has_eq]), fun x _ => by simp [DataW.atKey]⟩
theorem IsMapI.kept {row : Option Nat} (h : IsMapI P k e w b ks g) (hg : w.grownBy w1 row) (hne : some b ≠ row) : IsMapI P k e w1 b ks g := by
  obtain ⟨D, h1, h2⟩ := h
  exact ⟨D, h1.kept hg hne, h2⟩
theorem IsMapI.below (h : IsMapI P k e w b ks g) (hb : Below w.heap.size w w1) : IsMapI P k e w1 b ks g := h.kept (grown_of_below hb none) (by simp)
theorem IsMapI.drewN (h : IsMapI P k e w b ks g) (m : Nat) : IsMapI P k e (w.drewN m) b ks g := h
theorem IsMapI.drew (h : IsMapI P k e w b ks g) : IsMapI P k e w.drew b ks g := h
theorem IsMapI.lt (h : IsMapI P k e w b ks g) : b < w.heap.size := by obtain ⟨D, h1, _⟩ := h; exact h1.lt
theorem IsMapI.nodup (h : IsMapI P k e w b ks g) : ks.Nodup := by obtain ⟨_, _, _, h, _⟩ := h; exact h
theorem IsMapI.congr {g' : Int → Int} (h : IsMapI P k e w b ks g) (he : ∀ x, g' x = g x) : IsMapI P k e w b ks g' := by obtain ⟨D, h1, h2, h3, h4, h5⟩ := h; exact ⟨D, h1, h2, h3, h4, fun x hx => by rw [he]; exact h5 x hx⟩
theorem IsMapI.look {t : TypeId} (h : IsMapI P k e w b ks g) (hk : P.underlying k = some (.int .i64)) (ht : P.underlying t = some (.map k e)) (he : P.underlying e = some (.int .i64)) (hz : (zeroValue e).run P w = .ok (.int .i64 0) w) {x : Int} (hx : (Lit.int .i64 x).wf = true) :
    (Instr.lookup t (.map (some b)) (.int .i64 x) false).run P w = .ok (.int .i64 (g x)) w ∧ (Lit.int .i64 (g x)).wf = true := by
  obtain ⟨D, h1, _, _, _, h5⟩ := h
  obtain ⟨c, hrun, hat, hwc⟩ := h1.lookup_int (Maps.int_keyed hk) ht he hz (Maps.keyOf_int_mk hk hx)
  rw [h5 x hx] at hat
  injection hat with hat
  injection hat with _ hat
  rw [hat]
  exact ⟨hrun, hwc⟩
theorem IsMapI.put {t : TypeId} (h : IsMapI P k e w b ks g) (hk : P.underlying k = some (.int .i64)) (ht : P.underlying t = some (.map k e)) (he : P.underlying e = some (.int .i64)) (hn : ks.length < maxLen) {x v : Int} (hx : (Lit.int .i64 x).wf = true) (hv : (Lit.int .i64 v).wf = true) :
    ∃ w', (Instr.mapUpdate t (.map (some b)) (.int .i64 x) (.int .i64 v)).run P w = .ok () w' ∧ IsMapI P k e w' b (insK ks x) (updI g x v) ∧ w.grownBy w' (some b) := by
  obtain ⟨D, h1, h2, h3, h4, h5⟩ := h
  have hm := h1.isMap
  have K := Maps.int_keyed hk
  have hkey := K.key (Maps.keyOf_int_mk hk hx)
  obtain ⟨w', hrun, h6, hg⟩ := h1.update K ht hn (Maps.keyOf_int_mk hk hx) (plainElem_int he hv)
  have hsz : Maps.size (D.put (.int .i64 x) (.lit (.int .i64 v))) = (insK ks x).length := by
    rw [Maps.size_put (h1.tidy K), h4 x, h2, insK_len]
    by_cases hy : x ∈ ks <;> simp [hy]
  refine ⟨w', hrun, ⟨_, by rw [← hsz]; exact ownsMap_tight h6, hsz, insK_nodup h3 x, fun y => ?_, fun y hy => ?_⟩, hg⟩
  · by_cases hxy : y = x
    · subst hxy
      rw [Maps.has_put_same h1.isMap hkey]
      exact (decide_eq_true ((insK_mem _ _ _).2 (.inr rfl))).symm
    · rw [Maps.has_put_other (by intro e; exact hxy (by injection e)), h4 y]
      exact decide_eq_decide.2 ⟨fun h' => (insK_mem _ _ _).2 (.inl h'), fun h' => ((insK_mem _ _ _).1 h').elim id (fun e => absurd e hxy)⟩
  · unfold updI
    by_cases hxy : y = x
    · subst hxy
      rw [Maps.atKey_put_same hm hkey, if_pos rfl]
    · rw [Maps.atKey_put_other (by intro e; exact hxy (by injection e)), h5 y hy, if_neg hxy]
theorem IsKeys.look {t : TypeId} (h : IsKeys P k e w b ks) (hk : P.underlying k = some (.int .i64)) (ht : P.underlying t = some (.map k e)) (he : P.underlying e = some .bool) (hz : (zeroValue e).run P w = .ok (.bool false) w) {x : Int} (hx : (Lit.int .i64 x).wf = true) :
    (Instr.lookup t (.map (some b)) (.int .i64 x) false).run P w = .ok (.bool (decide (x ∈ ks))) w := by
  obtain ⟨D, h1, h2, h3, h4, h5, h6⟩ := h
  obtain ⟨v, ps, hrun, hv⟩ := h1.lookup (Maps.int_keyed hk) ht hz (plainElem_bool he false) (Maps.keyOf_int_mk hk hx)
  obtain ⟨c, rfl, hc⟩ := plainElem_bool_inv he hv
  simp only [Prod.mk.injEq] at hc
  by_cases hm : x ∈ ks
  · have := h5 x hm (.lit (.bool false))
    rw [hc.1] at this
    injection this with this
    injection this with this
    rw [this] at hrun
    rw [decide_eq_true hm]
    exact hrun
  · have h7 : Maps.has D (.int .i64 x) = false := by rw [h4 x]; exact decide_eq_false hm
    have := Maps.atKey_of_not_has h7 (.lit (.bool false))
    rw [hc.1] at this
    injection this with this
    injection this with this
    rw [this] at hrun
    rw [decide_eq_false hm]
    exact hrun
theorem IsKeys.put {t : TypeId} (h : IsKeys P k e w b ks) (hk : P.underlying k = some (.int .i64)) (ht : P.underlying t = some (.map k e)) (he : P.underlying e = some .bool) (hn : ks.length < maxLen) {x : Int} (hx : (Lit.int .i64 x).wf = true) :
    ∃ w', (Instr.mapUpdate t (.map (some b)) (.int .i64 x) (.bool true)).run P w = .ok () w' ∧ IsKeys P k e w' b (insK ks x) ∧ w.grownBy w' (some b) := by
  obtain ⟨D, h1, h2⟩ := h
  have K := Maps.int_keyed hk
  have hkey := K.key (Maps.keyOf_int_mk hk hx)
  obtain ⟨w', hrun, h3, hg⟩ := h1.update K ht hn (Maps.keyOf_int_mk hk hx) (plainElem_bool he true)
  have hsz : Maps.size (D.put (.int .i64 x) (.lit (.bool true))) = (insK ks x).length := by
    rw [Maps.size_put (h1.tidy K), h2.2.2.1 x, h2.1, insK_len]
    by_cases hy : x ∈ ks <;> simp [hy]
  refine ⟨w', hrun, ⟨_, by rw [← hsz]; exact ownsMap_tight h3, hsz, insK_nodup h2.2.1 x, fun z => ?_, fun z hz u => ?_, fun z hz => ?_⟩, hg⟩
  · by_cases hzy : z = x
    · subst hzy
      rw [Maps.has_put_same h1.isMap hkey]
      exact (decide_eq_true ((insK_mem _ _ _).2 (.inr rfl))).symm
    · rw [Maps.has_put_other (by intro e; exact hzy (by injection e)), h2.2.2.1 z]
      exact decide_eq_decide.2 ⟨fun h' => (insK_mem _ _ _).2 (.inl h'), fun h' => ((insK_mem _ _ _).1 h').elim id (fun e => absurd e hzy)⟩
  · by_cases hzy : z = x
    · subst hzy
      exact Maps.atKey_put_same h1.isMap hkey _ _
    · rw [Maps.atKey_put_other (by intro e; exact hzy (by injection e))]
      exact h2.2.2.2.1 z (((insK_mem _ _ _).1 hz).elim id (fun e => absurd e hzy)) u
  · rcases (insK_mem _ _ _).1 hz with h' | rfl
    · exact h2.2.2.2.2 z h'
    · exact hx
end
end Go.Proofs.Ythegbhfoleiegaa.All

/- impl.Intervals$1 ('touch'): three maps of the caller's are changed. -/
namespace Go.Proofs.Ythegbhfoleiegaa.All
open Go.RowKit Go.Proofs.YthegbhfoleiegaaW.PrintWords Go.Proofs.YthegbhfoleiegaaW.PrintLast Go.Proofs.YthegbhfoleiegaaW.PrintMore
set_option linter.unusedVariables false
set_option linter.unusedSimpArgs false
attribute [local go_sem] max2_int min2_int max_two min_two max_three min_three max_four min_four
theorem IsKeys.ne_cellsT {P : Program} {k e : TypeId} {w : World} {b g : Nat} {ks : List Int} (h : IsKeys P k e w b ks) {cs : Array Value} {t : TypeId} {sh : Nat × Nat} (hg : w.heap[g]? = some (.cells cs t sh)) : b ≠ g := by
  obtain ⟨D, ⟨es, clock, hb, _⟩, _⟩ := h
  rintro rfl
  rw [hb] at hg
  cases hg
theorem IsMapI.ne_cells {P : Program} {k e : TypeId} {w : World} {b g : Nat} {ks : List Int} {f : Int → Int} (h : IsMapI P k e w b ks f) {cs : Array Value} {t : TypeId} {sh : Nat × Nat} (hg : w.heap[g]? = some (.cells cs t sh)) : b ≠ g := by
  obtain ⟨D, ⟨es, clock, hb, _⟩, _⟩ := h
  rintro rfl
  rw [hb] at hg
  cases hg
/-- Nothing but the blocks x, y, z has changed. -/
structure Fr3 (x y z : Nat) (w w' : World) : Prop where
  os : w'.os = w.os
  tape : w'.tape = w.tape
  output : w'.output = w.output
  size : w.heap.size ≤ w'.heap.size
  old : ∀ b, b < w.heap.size → b ≠ x → b ≠ y → b ≠ z → w'.heap[b]? = w.heap[b]?
theorem Fr3.refl (x y z : Nat) (w : World) : Fr3 x y z w w := ⟨rfl, rfl, rfl, Nat.le_refl _, fun _ _ _ _ _ => rfl⟩
theorem Fr3.grown {x y z : Nat} {w w1 w2 : World} (h : Fr3 x y z w w1) {b : Nat} (hg : w1.grownBy w2 (some b)) (hb : b = x ∨ b = y ∨ b = z) : Fr3 x y z w w2 :=
  ⟨hg.os.trans h.os, hg.tape.trans h.tape, hg.output.trans h.output, Nat.le_trans h.size hg.size, fun c hc h1 h2 h3 => by
    rw [hg.block c (Nat.lt_of_lt_of_le hc h.size) (by intro e; have e := Option.some.inj e; subst e; rcases hb with rfl | rfl | rfl <;> contradiction)]
    exact h.old c hc h1 h2 h3⟩
theorem Fr3.drewN {x y z : Nat} {w w1 : World} (h : Fr3 x y z w w1) (m : Nat) : Fr3 x y z w (w1.drewN m) := ⟨h.os, h.tape, h.output, h.size, h.old⟩
theorem Fr3.drew {x y z : Nat} {w w1 : World} (h : Fr3 x y z w w1) : Fr3 x y z w w1.drew := ⟨h.os, h.tape, h.output, h.size, h.old⟩
theorem Fr3.trans {x y z : Nat} {w w1 w2 : World} (h : Fr3 x y z w w1) (g : Fr3 x y z w1 w2) : Fr3 x y z w w2 :=
  ⟨g.os.trans h.os, g.tape.trans h.tape, g.output.trans h.output, Nat.le_trans h.size g.size, fun c hc h1 h2 h3 => by rw [g.old c (Nat.lt_of_lt_of_le hc h.size) h1 h2 h3]; exact h.old c hc h1 h2 h3⟩
def tB (ka : List Int) (g : Int → Int) (r p : Int) : Int → Int := updI g r (if r ∈ ka then min (g r) p else p)
def tE (ka : List Int) (g : Int → Int) (r p : Int) : Int → Int := updI g r (if r ∈ ka then max (g r) p else p)
theorem updI_same (g : Int → Int) (x v : Int) : updI g x v x = v := if_pos rfl
theorem updI_twice (g : Int → Int) (x v u : Int) : updI (updI g x v) x u = updI g x u := by funext y; unfold updI; split <;> rfl
theorem insK_twice (ks : List Int) (x : Int) : insK (insK ks x) x = insK ks x := by unfold insK; split <;> simp_all
set_option maxHeartbeats 4000000 in
set_option maxRecDepth 100000 in
theorem touch_calls (bA bB bE mA mB mE : Nat) (ka kb ke : List Int) (gB gE : Int → Int) (r p : Int) (w : World)
    (hbA : w.heap[bA]? = some (.cells #[.map (some mA)] 92 (0, 0))) (hbB : w.heap[bB]? = some (.cells #[.map (some mB)] 114 (0, 0))) (hbE : w.heap[bE]? = some (.cells #[.map (some mE)] 114 (0, 0)))
    (hA : IsKeys Try.prog 2 4 w mA ka) (hB : IsMapI Try.prog 2 2 w mB kb gB) (hE : IsMapI Try.prog 2 2 w mE ke gE) (n1 : mA ≠ mB) (n2 : mA ≠ mE) (n3 : mB ≠ mE)
    (la : ka.length < 1099511627776) (lb : kb.length < 1099511627776) (le : ke.length < 1099511627776) (hr : (Lit.int .i64 r).wf = true) (hp : (Lit.int .i64 p).wf = true) :
    Calls Try.prog 75 #[.int .i64 r, .int .i64 p, .pointer (some ⟨bA, 0, none⟩), .pointer (some ⟨bB, 0, none⟩), .pointer (some ⟨bE, 0, none⟩)] w fun e w' => e = .returned (.tuple #[]) ∧
      IsKeys Try.prog 2 4 w' mA (insK ka r) ∧ IsMapI Try.prog 2 2 w' mB (insK kb r) (tB ka gB r p) ∧ IsMapI Try.prog 2 2 w' mE (insK ke r) (tE ka gE r p) ∧ Fr3 mA mB mE w w' := by
  have c0 := (blk_cell hbA 0).trans rfl
  have c1 := (blk_cell hbB 0).trans rfl
  have c2 := (blk_cell hbE 0).trans rfl
  have hz : (zeroValue 4).run Try.prog w = .ok (.bool false) w := by kernel_rfl
  have hlook := hA.look Try.underlying2 Try.underlying92 Try.underlying4 hz hr
  obtain ⟨q, hq⟩ : ∃ q, q = decide (r ∈ ka) := ⟨_, rfl⟩
  rw [← hq] at hlook
  have HQD := Aside0.mk hq
  clear hq
  have HA := Aside0.mk hA
  have HB := Aside0.mk hB
  have HE := Aside0.mk hE
  have HXA := Aside0.mk hbA
  have HXB := Aside0.mk hbB
  have HXE := Aside0.mk hbE
  have NB1 := Aside0.mk (show bB ≠ mA ∧ bB ≠ mB ∧ bB ≠ mE from ⟨fun e => hA.ne_cellsT hbB e.symm, fun e => hB.ne_cells hbB e.symm, fun e => hE.ne_cells hbB e.symm⟩)
  have NE1 := Aside0.mk (show bE ≠ mA ∧ bE ≠ mB ∧ bE ≠ mE from ⟨fun e => hA.ne_cellsT hbE e.symm, fun e => hB.ne_cells hbE e.symm, fun e => hE.ne_cells hbE e.symm⟩)
  clear hA hB hE hz hbA hbB hbE
  go_enter Try.func75, Try.ntmps75
  go_upto_if 10 with (fail)
  go_cut [] (fun wc => ∃ (kb1 ke1 : List Int) (gB1 gE1 : Int → Int), Aside0 (IsKeys Try.prog 2 4 wc mA (insK ka r)) ∧ Aside0 (IsMapI Try.prog 2 2 wc mB kb1 gB1) ∧ Aside0 (IsMapI Try.prog 2 2 wc mE ke1 gE1) ∧ Aside0 (insK kb1 r = insK kb r ∧ insK ke1 r = insK ke r ∧ updI gB1 r (min (gB1 r) p) = tB ka gB r p ∧ updI gE1 r (max (gE1 r) p) = tE ka gE r p) ∧ kb1.length < 1099511627777 ∧ ke1.length < 1099511627777 ∧ Aside0 (Fr3 mA mB mE w wc))
  case first =>
    cases q with
    | true =>
      have hm : r ∈ ka := of_decide_eq_true HQD.out.symm
      have hin : insK ka r = ka := if_pos hm
      have HIN := Aside0.mk hin
      have HM := Aside0.mk hm
      clear hin hm
      go_wp2
      go_meet
      case rel => exact ⟨kb, ke, gB, gE, ⟨by rw [HIN.out]; exact HA.out⟩, HB, HE, ⟨rfl, rfl, by unfold tB; rw [if_pos HM.out], by unfold tE; rw [if_pos HM.out]⟩, by omega, by omega, ⟨Fr3.refl _ _ _ _⟩⟩
    | false =>
      have hm : r ∉ ka := of_decide_eq_false HQD.out.symm
      have HM := Aside0.mk hm
      clear hm
      obtain ⟨w1, r1, hA1, g1⟩ := (HA.out.drew).put Try.underlying2 Try.underlying92 Try.underlying4 (Nat.lt_trans (by omega : ka.length < 1099511627776) (by decide)) hr
      obtain ⟨w2, r2, hB2, g2⟩ := ((HB.out.drew).kept g1 (by intro e; exact n1 (Option.some.inj e).symm)).put Try.underlying2 Try.underlying114 Try.underlying2 (Nat.lt_trans (by omega : kb.length < 1099511627776) (by decide)) hr hp
      obtain ⟨w3, r3, hE3, g3⟩ := (((HE.out.drew).kept g1 (by intro e; exact n2 (Option.some.inj e).symm)).kept g2 (by intro e; exact n3 (Option.some.inj e).symm)).put Try.underlying2 Try.underlying114 Try.underlying2 (Nat.lt_trans (by omega : ke.length < 1099511627776) (by decide)) hr hp
      have x1B := blk_grown (show w.drew.heap[bB]? = _ from HXB.out) g1 (by intro e; exact NB1.out.1 (Option.some.inj e))
      have x1E := blk_grown (show w.drew.heap[bE]? = _ from HXE.out) g1 (by intro e; exact NE1.out.1 (Option.some.inj e))
      have x2E := blk_grown x1E g2 (by intro e; exact NE1.out.2.1 (Option.some.inj e))
      have d1 := (blk_cell x1B 0).trans rfl
      have d2 := (blk_cell x1E 0).trans rfl
      have d3 := (blk_cell x2E 0).trans rfl
      clear x1B x1E x2E
      have HA1 := Aside0.mk ((hA1.kept g2 (by intro e; exact n1 (Option.some.inj e))).kept g3 (by intro e; exact n2 (Option.some.inj e)))
      have HB2 := Aside0.mk (hB2.kept g3 (by intro e; exact n3 (Option.some.inj e)))
      have HE3 := Aside0.mk hE3
      have HF := Aside0.mk (((((Fr3.refl mA mB mE w).drew).grown g1 (.inl rfl)).grown g2 (.inr (.inl rfl))).grown g3 (.inr (.inr rfl)))
      clear hA1 hB2 hE3 g1 g2 g3
      go_wp2
      go_region_with (fail)
      all_goals go_wp2
      all_goals go_meet
      all_goals exact ⟨_, _, _, _, HA1, HB2, HE3, ⟨insK_twice kb r, insK_twice ke r, by rw [updI_same, updI_twice]; unfold tB; rw [if_neg HM.out, Int.min_self], by rw [updI_same, updI_twice]; unfold tE; rw [if_neg HM.out, Int.max_self]⟩, by have := insK_le kb r; omega, by have := insK_le ke r; omega, HF⟩
  case rest =>
    clear HA HB HE hlook c0 c1 c2
    obtain ⟨kb1, ke1, gB1, gE1, HA, HB, HE, HQ, lb1, le1, HF⟩ := hcut
    have c1 := (blk_cell ((HF.out.old bB (blk_lt HXB.out) NB1.out.1 NB1.out.2.1 NB1.out.2.2).trans HXB.out) 0).trans rfl
    have c2 := (blk_cell ((HF.out.old bE (blk_lt HXE.out) NE1.out.1 NE1.out.2.1 NE1.out.2.2).trans HXE.out) 0).trans rfl
    have hz : (zeroValue 2).run Try.prog (wc.drew) = .ok (.int .i64 0) (wc.drew) := by kernel_rfl
    obtain ⟨l1, wf1⟩ := (HB.out.drew).look Try.underlying2 Try.underlying114 Try.underlying2 hz hr
    obtain ⟨l2, wf2⟩ := (HE.out.drew).look Try.underlying2 Try.underlying114 Try.underlying2 hz hr
    obtain ⟨mv, hmv⟩ : ∃ mv, (if p < gB1 r then p else gB1 r) = mv := ⟨_, rfl⟩
    obtain ⟨xv, hxv⟩ : ∃ xv, (if gE1 r < p then p else gE1 r) = xv := ⟨_, rfl⟩
    have hmv2 : min (gB1 r) p = mv := by rw [← hmv]; split <;> omega
    have hxv2 : max (gE1 r) p = xv := by rw [← hxv]; split <;> omega
    have wf3 : (Lit.int .i64 mv).wf = true := by rw [← hmv]; split <;> assumption
    have wf4 : (Lit.int .i64 xv).wf = true := by rw [← hxv]; split <;> assumption
    obtain ⟨w2, r2, hB2, g2⟩ := (HB.out.drew).put Try.underlying2 Try.underlying114 Try.underlying2 (Nat.lt_trans (by omega : kb1.length < 1099511627778) (by decide)) hr wf3
    obtain ⟨w3, r3, hE3, g3⟩ := ((HE.out.drew).kept g2 (by intro e; exact n3 (Option.some.inj e).symm)).put Try.underlying2 Try.underlying114 Try.underlying2 (Nat.lt_trans (by omega : ke1.length < 1099511627778) (by decide)) hr wf4
    have hz2 : (zeroValue 2).run Try.prog w2 = .ok (.int .i64 0) w2 := by kernel_rfl
    obtain ⟨l3, _⟩ := ((HE.out.drew).kept g2 (by intro e; exact n3 (Option.some.inj e).symm)).look Try.underlying2 Try.underlying114 Try.underlying2 hz2 hr
    have xcE := (HF.out.old bE (blk_lt HXE.out) NE1.out.1 NE1.out.2.1 NE1.out.2.2).trans HXE.out
    have x2E := blk_grown (show wc.drew.heap[bE]? = _ from xcE) g2 (by intro e; exact NE1.out.2.1 (Option.some.inj e))
    have d3 := (blk_cell x2E 0).trans rfl
    clear xcE x2E hz2
    have HA3 := Aside0.mk (((HA.out.drew).kept g2 (by intro e; exact n1 (Option.some.inj e))).kept g3 (by intro e; exact n2 (Option.some.inj e)))
    have HB3 := Aside0.mk (hB2.kept g3 (by intro e; exact n3 (Option.some.inj e)))
    have HE3 := Aside0.mk hE3
    have HF3 := Aside0.mk (((HF.out.drew).grown g2 (.inr (.inl rfl))).grown g3 (.inr (.inr rfl)))
    rw [HQ.out.1, ← hmv2, HQ.out.2.2.1] at HB3
    rw [HQ.out.2.1, ← hxv2, HQ.out.2.2.2] at HE3
    clear hB2 hE3 g2 g3 hz wf1 wf2 wf3 wf4 hmv2 hxv2
    go_wp2
    go_region
    all_goals go_wp2
    all_goals (try simp only [Exit.inBlock, Exit.then])
    all_goals first | refine bodyPost_ret (results_none rfl _ _ _) rfl ?_ | refine bodyPost_end (results_none rfl _ _ _) rfl ?_
    all_goals exact ⟨rfl, HA3.out, HB3.out, HE3.out, HF3.out⟩
end Go.Proofs.Ythegbhfoleiegaa.All

