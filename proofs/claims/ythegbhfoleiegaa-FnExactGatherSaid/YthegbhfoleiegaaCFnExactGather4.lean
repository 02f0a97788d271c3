/- Part 4 of the proof of FnExactGather: functions of the translation with what they return, and plain laws of these. Written by programs of this session over the kit's print, and by hand. -/
import Derived.Test.YthegbhfoleiegaaProg
import Derived.Test.YthegbhfoleiegaaCFnExactGatherWApart
import Derived.Test.YthegbhfoleiegaaCFnExactGatherWArr
import Derived.Test.YthegbhfoleiegaaCFnExactGatherWFoot
import Derived.Test.YthegbhfoleiegaaCFnExactGatherWGuard
import Derived.Test.YthegbhfoleiegaaCFnExactGatherWKept
import Derived.Test.YthegbhfoleiegaaCFnExactGatherWLast
import Derived.Test.YthegbhfoleiegaaCFnExactGatherWMore
import Derived.Test.YthegbhfoleiegaaCFnExactGatherWN
import Derived.Test.YthegbhfoleiegaaCFnExactGatherWNEv
import Derived.Test.YthegbhfoleiegaaCFnExactGatherWQPut
import Derived.Test.YthegbhfoleiegaaCFnExactGatherWRepsOne
import Derived.Test.YthegbhfoleiegaaCFnExactGatherWShare
import Derived.Test.YthegbhfoleiegaaCFnExactGatherWTab
import Derived.Test.YthegbhfoleiegaaCFnExactGatherWWords
import Derived.Test.YthegbhfoleiegaaCFnExactGatherWZeros
import Derived.Below
import Derived.Deep.Draws
import Derived.Deep.AppendLies
import Derived.Maps.AppendAt
import Derived.OwnWalk
import Derived.Laws.BytesArg
import Derived.Laws.MakeOwn
import Derived.Laws.OwnMore
import Derived.Deep.OwnRows
import Derived.Tactics
import Derived.Lib.ConvBytes
import Derived.Laws.Slices
import Derived.WalkKit
import Derived.KernelRfl
import Derived.RowKit3
import Derived.Deep.LoopGhost
import Derived.Deep.QuietTactic
import Derived.BigQuiet
import Derived.WideLaws
import Derived.Deep.DeepCutAuto
import Derived.Deep.CutBlock
import Derived.Deep.RegionHeld3
import Derived.Laws.Rows
import Derived.Lib.AppendStr
import Derived.ArgAppend
import Derived.Laws.IdiomCopy
import Derived.OrdersHeld
import Derived.Laws.BitsLemmas
import Derived.RowKit
import Derived.Maps.OwnSet
import Derived.Maps.OwnOps
import Derived.Maps.RangeWalk
import Derived.StringKeys
import Derived.Sort.KeysCollected
import Derived.Shelf.GgSortFunc.Whole
import Derived.Shelf.GgSortFunc.Tiny
import Derived.Sort.OwnSortedInts
import Derived.Lib.RowBridge
import Derived.Lib.SortBridge
import Derived.Sort.LotA
import Derived.Deep.RegionWith
import Derived.Deep.Slices
import Derived.ChangeArms
import Derived.Laws.ResultCell
import Derived.DeepKeys4
import Derived.ProofKit
import Derived.OpenShut
import Derived.ShutString
import Derived.ChangeOld
import Derived.SizedLaws
import Derived.Test.YthegbhfoleiegaaCFnExactGather1
import Derived.Test.YthegbhfoleiegaaCFnExactGather2
import Derived.Test.YthegbhfoleiegaaCFnExactGather3
namespace Go.Proofs.Ythegbhfoleiegaa.All
open Go.RowKit Go.Proofs.YthegbhfoleiegaaW.PrintWords Go.Proofs.YthegbhfoleiegaaW.PrintLast Go.Proofs.YthegbhfoleiegaaW.PrintMore
attribute [local go_sem] max2_int min2_int max_two min_two max_three min_three max_four min_four   -- for this text's walks alone
set_option linter.unusedVariables false
set_option linter.unusedSimpArgs false

mutual
def spec_Gather.l0 : Nat → List (S68) → List (S68) → ByteArray → List Bool → Bool → Option (List Int)
 | 0, _, _, _, _, _ => none
 | k + 1, x0, x1, x2, x7, x8 => if x8 = true then ((some (([] : List (S68)) : List (S68))).bind fun y879 => (if y879.length + x0.length < 5864062014805 then (spec_Gather.l1 k x0 x1 x2 x7 false (y879 ++ x0) 0) else (none))) else (spec_Gather.l4 k x7 (([] : List Int)) 0)
def spec_Gather.l1 : Nat → List (S68) → List (S68) → ByteArray → List Bool → Bool → List (S68) → Int → Option (List Int)
 | 0, _, _, _, _, _, _, _ => none
 | k + 1, x0, x1, x2, x7, x8, x9, x10 => if x10 < (x1.length : Int) then (if 0 ≤ x10 then (if x10 < (x7.length : Int) then (if rdOf false x7 x10 = true then (if x9.length < 5864062014805 then (spec_Gather.l1 k x0 x1 x2 x7 x8 (x9 ++ [(⟨(rd_T68 x1 x10).f0⟩ : S68)]) (wrap64 (x10 + 1))) else (none)) else (spec_Gather.l1 k x0 x1 x2 x7 x8 x9 (wrap64 (x10 + 1)))) else (none)) else (none)) else ((spec_l20Wanted.f k x9 x2).bind fun t890 => (spec_Gather.l2 k x0 x1 x2 x7 x8 x9 t890 0))
def spec_Gather.l2 : Nat → List (S68) → List (S68) → ByteArray → List Bool → Bool → List (S68) → List ByteArray → Int → Option (List Int)
 | 0, _, _, _, _, _, _, _, _ => none
 | k + 1, x0, x1, x2, x7, x8, x9, x11, x12 => if x12 < (x1.length : Int) then (spec_Gather.j3 k x0 x1 x2 x7 x8 x9 x11 x12 (!x8)) else (spec_Gather.j3 k x0 x1 x2 x7 x8 x9 x11 x12 false)
def spec_Gather.j3 : Nat → List (S68) → List (S68) → ByteArray → List Bool → Bool → List (S68) → List ByteArray → Int → Bool → Option (List Int)
 | 0, _, _, _, _, _, _, _, _, _ => none
 | k + 1, x0, x1, x2, x7, x8, x9, x11, x12, x50 => if x50 = true then (spec_Gather.l3 k x0 x1 x2 x7 x8 x9 x11 x12 0) else (spec_Gather.l0 k x0 x1 x2 x7 x8)
def spec_Gather.l3 : Nat → List (S68) → List (S68) → ByteArray → List Bool → Bool → List (S68) → List ByteArray → Int → Int → Option (List Int)
 | 0, _, _, _, _, _, _, _, _, _ => none
 | k + 1, x0, x1, x2, x7, x8, x9, x11, x12, x13 => if x13 < (x11.length : Int) then (if 0 ≤ x12 then (if x12 < (x7.length : Int) then (spec_Gather.j5 k x0 x1 x2 x7 x8 x9 x11 x12 x13 (!(rdOf false x7 x12))) else (none)) else (none)) else (spec_Gather.j5 k x0 x1 x2 x7 x8 x9 x11 x12 x13 false)
def spec_Gather.j5 : Nat → List (S68) → List (S68) → ByteArray → List Bool → Bool → List (S68) → List ByteArray → Int → Int → Bool → Option (List Int)
 | 0, _, _, _, _, _, _, _, _, _, _ => none
 | k + 1, x0, x1, x2, x7, x8, x9, x11, x12, x13, x63 => if x63 = true then (if 0 ≤ x12 then (if x12 < (x1.length : Int) then (if 0 ≤ x13 then (if x13 < (x11.length : Int) then ((spec_l20Defines.f k ((rd_T68 x1 x12).f0) (rdOf ByteArray.empty x11 x13)).bind fun t896 => (if t896 = true then ((spec_l20Of.f k x9 (-1) (rdOf ByteArray.empty x11 x13)).bind fun bt898 => (if bt898.1 < 0 then (if x12 < (x7.length : Int) then (spec_Gather.l3 k x0 x1 x2 (x7.set (x12 : Int).toNat true) true x9 x11 x12 (wrap64 (x13 + 1))) else (none)) else (spec_Gather.l3 k x0 x1 x2 x7 x8 x9 x11 x12 (wrap64 (x13 + 1))))) else (spec_Gather.l3 k x0 x1 x2 x7 x8 x9 x11 x12 (wrap64 (x13 + 1))))) else (none)) else (none)) else (none)) else (none)) else (spec_Gather.l2 k x0 x1 x2 x7 x8 x9 x11 (wrap64 (x12 + 1)))
def spec_Gather.l4 : Nat → List Bool → List Int → Int → Option (List Int)
 | 0, _, _, _ => none
 | k + 1, x7, x14, x15 => if x15 < (x7.length : Int) then (if 0 ≤ x15 then (if rdOf false x7 x15 = true then (if x14.length < 17592186044416 then (spec_Gather.l4 k x7 (x14 ++ [x15]) (wrap64 (x15 + 1))) else (none)) else (spec_Gather.l4 k x7 x14 (wrap64 (x15 + 1)))) else (none)) else (some x14)
end
def spec_Gather.f (k : Nat) (l0 : List (S68)) (l1 : List (S68)) (a2 : ByteArray) : Option (List Int) := if 0 ≤ (l1.length : Int) then (if ((l1.length : Int) : Int).toNat ≤ 281474976710656 then (spec_Gather.l0 k l0 l1 a2 (List.replicate ((l1.length : Int) : Int).toNat false) true) else (none)) else (none)
def spec_Gather.T18 : Bool × List (List Nat × List Nat) := (true, [([], []), ([], []), ([0, 1], [0, 1]), ([2], [2]), ([], []), ([], []), ([4, 5], [4, 5]), ([6], [6]), ([3, 7], [3, 7]), ([8, 8], [8]), ([9], [9]), ([9], [9]), ([9], [9]), ([11, 12, 9], [9, 11, 12]), ([13, 9], [9, 13]), ([10, 14, 9, 9], [9, 10, 14]), ([15, 9], [9, 15]), ([16, 9], [9, 16]), ([9, 17], [9, 17])])
def spec_Gather.B18 : List Nat := [0, 0, 3, 7, 0, 0, 48, 112, 255, 511, 1023, 1023, 1023, 7167, 15359, 32767, 65535, 131071, 262143]
theorem spec_Gather.tab18 : rtab .any (opsOf Try.f42 18) = spec_Gather.T18 := by kernel_rfl
theorem spec_Gather.bits18 : waitsOk spec_Gather.T18.2 spec_Gather.B18 = true := by kernel_rfl
set_option maxHeartbeats 8000000 in
set_option maxRecDepth 100000 in
theorem spec_Gather.calls (k : Nat) (P0_ : Nat → Prop) (A0 : Option Addr) (c0 : Nat) (l0 : List (S68)) (P1_ : Nat → Prop) (A1 : Option Addr) (c1 : Nat) (l1 : List (S68)) (a2 : ByteArray) (r : List Int) (w : World) (hs0 : Kd.V k68 68 w w.heap.size (fun k_ => P0_ k_) (.slice A0 l0.length c0) l0) (hs1 : Kd.V k68 68 w w.heap.size (fun k_ => P1_ k_) (.slice A1 l1.length c1) l1) (h : spec_Gather.f k l0 l1 a2 = some r) :
 Calls Try.prog 42 #[.slice A0 l0.length c0, .slice A1 l1.length c1, .string a2] w fun e w' => ∃ v0_ : Value, e = .returned (v0_) ∧ Kd.R (Kd.int .i64) 2 w' w.heap.size (fun k_ => (w.heap.size ≤ k_)) v0_ r ∧ Below w.heap.size w w' := by
 have hfd125_0 : ∀ (x1 : Int) (x2 : Int) (W_ : World), (Instr.field 125 (.agg #[.int .i64 x1, .int .i64 x2]) 0).run Try.prog W_ = .ok (.int .i64 x1) W_ := fun _ _ _ => by kernel_rfl
 have hu68 := Try.underlying68
 have HO0 := Aside0.mk (show Kd.V k68 68 w w.heap.size (fun k_ => ((P0_ k_ ∨ P1_ k_) ∨ w.heap.size ≤ k_)) (.slice A0 l0.length c0) l0 from Kd.V_mono hs0 (fun k_ hk => .inl (.inl hk)))
 have HO1 := Aside0.mk (show Kd.V k68 68 w w.heap.size (fun k_ => ((P0_ k_ ∨ P1_ k_) ∨ w.heap.size ≤ k_)) (.slice A1 l1.length c1) l1 from Kd.V_mono hs1 (fun k_ hk => .inl (.inr hk)))
 have HB := Aside0.mk (Below.refl w.heap.size w)
 have H : (if 0 ≤ (l1.length : Int) then (if ((l1.length : Int) : Int).toNat ≤ 281474976710656 then (spec_Gather.l0 k l0 l1 a2 (List.replicate ((l1.length : Int) : Int).toNat false) true) else (none)) else (none)) = some r := h
 clear h
 by_cases c4 : 0 ≤ (l1.length : Int)
 · rw [if_pos c4] at H
   have c4b0 := eq_true c4
   have c4b1 : decide (0 ≤ (l1.length : Int)) = true := decide_eq_true c4
   clear c4
   by_cases c5 : ((l1.length : Int) : Int).toNat ≤ 281474976710656
   · rw [if_pos c5] at H
     have c5b0 := eq_true c5
     have c5b1 : decide (((l1.length : Int) : Int).toNat ≤ 281474976710656) = true := decide_eq_true c5
     clear c5
     obtain ⟨y876, hy876⟩ : ∃ y_ : List Bool, y_ = (List.replicate ((l1.length : Int) : Int).toNat false) := ⟨_, rfl⟩
     replace H : (spec_Gather.l0 k l0 l1 a2 y876 true) = some r := by first | (rw [hy876]; with_reducible exact H) | (have H2_ := (Option.bind_some _ _).symm.trans H; rw [hy876]; with_reducible exact H2_) | (have H2_ := (Option.bind_some _ _).symm.trans H; with_reducible exact H2_) | with_reducible exact H | (rw [hy876]; exact H) | exact H
     have Ny876 := Aside0.mk hy876
     clear hy876
     have H' := Aside0.mk H
     clear H
     go_enter Try.func42, Try.ntmps42
     go_wp2_with (first | ((with_reducible refine gate_dst (N := 18) rfl ?_); refine Kd.R_make Kd.bool _ 4 rfl (N := 18) rfl 97 _ _ rfl (l1.length : Int) rfl rfl Try.underlying97 (.bool false) 1 info4 rfl (by decide) (by omega) false (ok := fun _ => True) (okp := fun _ => True) rfl (fun _ hk => hk) trivial (of_decide_eq_true az) (Nat.le_trans (Nat.mul_le_mul_right _ (of_decide_eq_true az : (l1.length : Int).toNat ≤ 281474976710656)) (by omega)) (Below.refl _ _) (Nat.le_refl _) ?_; intro v877 w6 ho7 hb hg_ hnew_; clear hg_ hnew_; (first | rw [← Ny876.out] at ho7 | (simp only [Int.reduceToNat] at ho7; rw [← Ny876.out] at ho7)); have n0_ := Aside0.mk (Kd.V_elder' (by (with_reducible repeat (first | apply Kd.V_alloc | apply Kd.V_drewN | apply Kd.V_drew)); exact HO0.out) (Kd.R_base ho7) hb); have n1_ := Aside0.mk (Kd.V_elder' (by (with_reducible repeat (first | apply Kd.V_alloc | apply Kd.V_drewN | apply Kd.V_drew)); exact HO1.out) (Kd.R_base ho7) hb); have n2_ := Aside0.mk (Kd.R_lower (Kd.R_newM (M := fun k_ => (w.heap.size ≤ k_)) ho7 (below_size bz) (fun k_ h_ => h_)) (below_size bz)); have n3_ := Aside0.mk (below_step bz hb); clear HO0; clear HO1; clear HB; have HO0 := n0_; have HO1 := n1_; have HO878 := n2_; have HB := n3_; clear n0_ n1_ n2_ n3_; clear hb ho7))
     go_loopg [8] k (fun kq v8 w' => ∃ (x7_1 : List Bool) (x8_1 : Bool), v8 = .bool x8_1 ∧ Aside0 (spec_Gather.l0 kq l0 l1 a2 x7_1 x8_1 = some r) ∧ Aside0 (kq ≤ k) ∧ Aside0 (Kd.V k68 68 w' w.heap.size (fun k_ => ((P0_ k_ ∨ P1_ k_) ∨ w.heap.size ≤ k_) ∧ some k_ ≠ (v877 : Value).ownBlock) (.slice A0 l0.length c0) l0) ∧ Aside0 (Kd.V k68 68 w' w.heap.size (fun k_ => ((P0_ k_ ∨ P1_ k_) ∨ w.heap.size ≤ k_) ∧ some k_ ≠ (v877 : Value).ownBlock) (.slice A1 l1.length c1) l1) ∧ Aside0 (Kd.R Kd.bool 4 w' w.heap.size (fun k_ => (w.heap.size ≤ k_)) v877 x7_1) ∧ Aside0 (Below w.heap.size w w'))
     case atStart => exact ⟨(y876), (true), sz_, H', ⟨Nat.le_refl _⟩, ⟨by (with_reducible repeat (first | apply Kd.V_alloc | apply Kd.V_drewN | apply Kd.V_drew)); exact HO0.out⟩, ⟨by (with_reducible repeat (first | apply Kd.V_alloc | apply Kd.V_drewN | apply Kd.V_drew)); exact HO1.out⟩, ⟨by (with_reducible repeat (first | apply Kd.R_alloc | apply Kd.R_drewN | apply Kd.R_drew)); exact Kd.R_mono HO878.out (fun _ hk => hk.1)⟩, ⟨ bz⟩⟩
     case round =>
      clear H'
      try clear c1
      try clear p2
      try clear c4
      try clear c4b0
      try clear c4b1
      try clear c5
      try clear c5b0
      try clear c5b1
      obtain ⟨x7_1, x8_1, rfl, HA, HK1, HO_0, HO_1, HO_7, HB⟩ := hrel
      cases gk with
      | zero => exact absurd HA.out (by simp [spec_Gather.l0])
      | succ k1 =>
       have H := HA.out
       clear HA
       simp only [spec_Gather.l0] at H
       by_cases c8 : x8_1 = true
       · subst c8
         have H1 : ((some (([] : List (S68)) : List (S68))).bind fun y879 => (if y879.length + l0.length < 5864062014805 then (spec_Gather.l1 k1 l0 l1 a2 x7_1 false (y879 ++ l0) 0) else (none))) = some r := by rw [if_pos rfl] at H; exact H
         clear H
         have H := H1
         clear H1
         obtain ⟨y879, hy879⟩ : ∃ y_ : List (S68), y_ = (([] : List (S68))) := ⟨_, rfl⟩
         replace H : (if y879.length + l0.length < 5864062014805 then (spec_Gather.l1 k1 l0 l1 a2 x7_1 false (y879 ++ l0) 0) else (none)) = some r := by first | (rw [hy879]; with_reducible exact H) | (have H2_ := (Option.bind_some _ _).symm.trans H; rw [hy879]; with_reducible exact H2_) | (have H2_ := (Option.bind_some _ _).symm.trans H; with_reducible exact H2_) | with_reducible exact H | (rw [hy879]; exact H) | exact H
         have Ny879 := Aside0.mk hy879
         clear hy879
         by_cases c9 : y879.length + l0.length < 5864062014805
         · rw [if_pos c9] at H
           have LMc9 := Aside0.mk c9
           clear c9
           obtain ⟨y882, hy882⟩ : ∃ y_ : List (S68), y_ = (y879 ++ l0) := ⟨_, rfl⟩
           replace H : (spec_Gather.l1 k1 l0 l1 a2 x7_1 false y882 0) = some r := by first | (rw [hy882]; with_reducible exact H) | (have H2_ := (Option.bind_some _ _).symm.trans H; rw [hy882]; with_reducible exact H2_) | (have H2_ := (Option.bind_some _ _).symm.trans H; with_reducible exact H2_) | with_reducible exact H | (rw [hy882]; exact H) | exact H
           have Ny882 := Aside0.mk hy882
           clear hy882
           have H' := Aside0.mk H
           clear H
           go_wp2_with (first | ((with_reducible refine gate_dst (N := 20) rfl ?_); refine Kd.N_lit k68 _ 68 ?hg (N' := 20) ?hd (xs := ([] : List (S68))) (inner := []) (ok := (fun k_ => ((P0_ k_ ∨ P1_ k_) ∨ w.heap.size ≤ k_) ∧ some k_ ≠ (v877 : Value).ownBlock)) (okp := (fun k_ => ((P0_ k_ ∨ P1_ k_) ∨ w.heap.size ≤ k_) ∧ some k_ ≠ (v877 : Value).ownBlock)) ?hr ?hp (fun _ hk => hk) ((show ∀ k_, wr.heap.size ≤ k_ → (fun k_ => ((P0_ k_ ∨ P1_ k_) ∨ w.heap.size ≤ k_) ∧ some k_ ≠ (v877 : Value).ownBlock) k_ from fun k_ hk => ⟨(.inr (Nat.le_trans (below_size bz) hk)), Kd.fresh' (Kd.R_lt (rz HO_7.out)) k_ hk⟩) _ (Nat.le_refl _)) (Below.refl _ _) (Nat.le_refl _) (by simp) ?_; (case hd => rfl); (case hg => rfl); (case hr => first | (go_simp; done) | (go_simp; rfl)); (case hp => exact (Reps.none _ _)); intro v880 w10 ho11 hb hg_ hnew_; clear hg_ hnew_; (first | rw [← Ny879.out] at ho11 | (simp only [Int.reduceToNat] at ho11; rw [← Ny879.out] at ho11)); have n0_ := Aside0.mk (Kd.V_elder' (by (with_reducible repeat (first | apply Kd.V_alloc | apply Kd.V_drewN | apply Kd.V_drew)); exact HO_0.out) (Kd.N_base ho11) hb); have n1_ := Aside0.mk (Kd.V_elder' (by (with_reducible repeat (first | apply Kd.V_alloc | apply Kd.V_drewN | apply Kd.V_drew)); exact HO_1.out) (Kd.N_base ho11) hb); have n2_ := Aside0.mk (Kd.R_below (rz HO_7.out) hb); have n3_ := Aside0.mk (Kd.N_lower ho11 (below_size bz)); have n4_ := Aside0.mk (below_step bz hb); clear HO_0; clear HO_1; clear HO_7; clear HB; have HO_0 := n0_; have HO_1 := n1_; have HO_7 := n2_; have HO881 := n3_; have HB := n4_; clear n0_ n1_ n2_ n3_ n4_; clear hb ho11) | ((with_reducible refine gate_builtin (b := .append) (xs := #[.tmp 20, .tmp 21]) rfl ?_); at_builtin; refine Kd.N_append_rows k68 (w0 := w) w.heap.size rfl (.tmp 20) (.tmp 21) 52 68 (.agg #[(.slice none 0 0)]) 24 rfl Try.underlying52 info68 rfl (by decide) (by omega) v880 y879 l0 _ _ _ (fun k_ => ((P0_ k_ ∨ P1_ k_) ∨ w.heap.size ≤ k_) ∧ some k_ ≠ (v877 : Value).ownBlock) (fun k_ => ((fun k_ => ((P0_ k_ ∨ P1_ k_) ∨ w.heap.size ≤ k_) ∧ some k_ ≠ (v877 : Value).ownBlock)) k_ ∧ some k_ ≠ (v880 : Value).ownBlock) rfl rfl ?aO ?aR (fun _ hk => hk) ?aF ?aB ?aS ?aL ?_; (case aR => exact (by skip; exact Kd.V_F (Kd.V_mono (ok' := (fun k_ => ((fun k_ => ((P0_ k_ ∨ P1_ k_) ∨ w.heap.size ≤ k_) ∧ some k_ ≠ (v877 : Value).ownBlock)) k_ ∧ some k_ ≠ (v880 : Value).ownBlock)) (HO_0.out) (fun k_ hk => ⟨⟨hk.1.1, hk.1.2⟩, hk.2⟩)))); (case aB => exact bz); (case aF => exact (fun k_ hk => ⟨(.inr (Nat.le_trans (below_size bz) hk)), Kd.fresh' (Kd.R_lt (rz HO_7.out)) k_ hk⟩)); (case aO => exact (by (with_reducible repeat (first | apply Kd.N_alloc | apply Kd.N_drewN | apply Kd.N_drew)); exact HO881.out)); (case aS => exact (below_size bz)); (case aL => have := LMc9.out; omega); intro v883 w12 ho hb hg hat; rw [← Ny882.out] at ho; have n0_ := Aside0.mk (Kd.V_afterv (ok := (fun k_ => ((P0_ k_ ∨ P1_ k_) ∨ w.heap.size ≤ k_) ∧ some k_ ≠ (v877 : Value).ownBlock)) (by (with_reducible repeat (first | apply Kd.V_alloc | apply Kd.V_drewN | apply Kd.V_drew)); exact HO_0.out) hg hat); have n1_ := Aside0.mk (Kd.V_afterv (ok := (fun k_ => ((P0_ k_ ∨ P1_ k_) ∨ w.heap.size ≤ k_) ∧ some k_ ≠ (v877 : Value).ownBlock)) (by (with_reducible repeat (first | apply Kd.V_alloc | apply Kd.V_drewN | apply Kd.V_drew)); exact HO_1.out) hg hat); have n2_ := Aside0.mk (Kd.R_over' (rz HO_7.out) (Kd.N_typed (by (with_reducible repeat (first | apply Kd.N_alloc | apply Kd.N_drewN | apply Kd.N_drew)); exact HO881.out)) (by decide) hg); have n3_ := Aside0.mk (hb); have n4_ := Aside0.mk (ho); clear HO_0; clear HO_1; clear HO_7; clear HB; clear HO881; have HO_0 := n0_; have HO_1 := n1_; have HO_7 := n2_; have HB := n3_; have HO884 := n4_; clear n0_ n1_ n2_ n3_ n4_; clear ho hb hg hat))
           go_loopg [9, 10] k1 (fun kq v9 v10 w' => ∃ (x9_2 : List (S68)) (x10_2 : Int), v10 = .int .i64 x10_2 ∧ Aside0 (spec_Gather.l1 kq l0 l1 a2 x7_1 false x9_2 x10_2 = some r) ∧ Aside0 (kq ≤ k1) ∧ Aside0 (Kd.V k68 68 w' w.heap.size (fun k_ => ((P0_ k_ ∨ P1_ k_) ∨ w.heap.size ≤ k_) ∧ some k_ ≠ (v877 : Value).ownBlock ∧ some k_ ≠ (v9 : Value).ownBlock) (.slice A0 l0.length c0) l0) ∧ Aside0 (Kd.V k68 68 w' w.heap.size (fun k_ => ((P0_ k_ ∨ P1_ k_) ∨ w.heap.size ≤ k_) ∧ some k_ ≠ (v877 : Value).ownBlock ∧ some k_ ≠ (v9 : Value).ownBlock) (.slice A1 l1.length c1) l1) ∧ Aside0 (Kd.R Kd.bool 4 w' w.heap.size (fun k_ => (w.heap.size ≤ k_)) v877 x7_1) ∧ Aside0 (Kd.N k68 68 w' w.heap.size (fun k_ => ((P0_ k_ ∨ P1_ k_) ∨ w.heap.size ≤ k_) ∧ some k_ ≠ (v877 : Value).ownBlock) v9 x9_2) ∧ Aside0 (Below w.heap.size w w'))
           case atStart => exact ⟨(y882), (0), sz_, H', ⟨Nat.le_refl _⟩, ⟨by (with_reducible repeat (first | apply Kd.V_alloc | apply Kd.V_drewN | apply Kd.V_drew)); exact Kd.V_mono HO_0.out (fun _ hk => ⟨hk.1.1, ⟨hk.1.2, hk.2⟩⟩)⟩, ⟨by (with_reducible repeat (first | apply Kd.V_alloc | apply Kd.V_drewN | apply Kd.V_drew)); exact Kd.V_mono HO_1.out (fun _ hk => ⟨hk.1.1, ⟨hk.1.2, hk.2⟩⟩)⟩, ⟨by (with_reducible repeat (first | apply Kd.R_alloc | apply Kd.R_drewN | apply Kd.R_drew)); exact HO_7.out⟩, ⟨by (with_reducible repeat (first | apply Kd.N_alloc | apply Kd.N_drewN | apply Kd.N_drew)); exact HO884.out⟩, ⟨ bz⟩⟩
           case round =>
            clear H'
            try clear c1
            try clear p2
            try clear c4
            try clear c4b0
            try clear c4b1
            try clear c5
            try clear c5b0
            try clear c5b1
            try clear c8
            try clear c9
            try clear p2
            obtain ⟨x9_2, x10_2, rfl, HA, HK2, HO_0, HO_1, HO_7, HO_9, HB⟩ := hrel
            cases gk with
            | zero => exact absurd HA.out (by simp [spec_Gather.l1])
            | succ k2 =>
             have H := HA.out
             clear HA
             simp only [spec_Gather.l1] at H
             by_cases c13 : x10_2 < (l1.length : Int)
             · rw [if_pos c13] at H
               have c13b0 : decide (x10_2 < (l1.length : Int)) = true := decide_eq_true c13
               clear c13
               by_cases c14 : 0 ≤ x10_2
               · rw [if_pos c14] at H
                 have c14b0 : decide (0 ≤ x10_2) = true := decide_eq_true c14
                 clear c14
                 by_cases c15 : x10_2 < (x7_1.length : Int)
                 · rw [if_pos c15] at H
                   have c15b0 : decide (x10_2 < (x7_1.length : Int)) = true := decide_eq_true c15
                   clear c15
                   obtain ⟨bq16, hbq16⟩ : ∃ b_ : Bool, b_ = (rdOf false x7_1 x10_2) := ⟨_, rfl⟩
                   replace H : (if bq16 = true then (if x9_2.length < 5864062014805 then (spec_Gather.l1 k2 l0 l1 a2 x7_1 false (x9_2 ++ [(⟨(rd_T68 l1 x10_2).f0⟩ : S68)]) (wrap64 (x10_2 + 1))) else (none)) else (spec_Gather.l1 k2 l0 l1 a2 x7_1 false x9_2 (wrap64 (x10_2 + 1)))) = some r := by rw [← hbq16] at H; exact H
                   have Nbq16 := Aside0.mk hbq16
                   clear hbq16
                   by_cases c17 : bq16 = true
                   · subst c17
                     have H1 : (if x9_2.length < 5864062014805 then (spec_Gather.l1 k2 l0 l1 a2 x7_1 false (x9_2 ++ [(⟨(rd_T68 l1 x10_2).f0⟩ : S68)]) (wrap64 (x10_2 + 1))) else (none)) = some r := by rw [if_pos rfl] at H; exact H
                     clear H
                     have H := H1
                     clear H1
                     by_cases c18 : x9_2.length < 5864062014805
                     · rw [if_pos c18] at H
                       have LMc18 := Aside0.mk c18
                       clear c18
                       obtain ⟨y887, hy887⟩ : ∃ y_ : List (S68), y_ = (x9_2 ++ [(⟨(rd_T68 l1 x10_2).f0⟩ : S68)]) := ⟨_, rfl⟩
                       replace H : (spec_Gather.l1 k2 l0 l1 a2 x7_1 false y887 (wrap64 (x10_2 + 1))) = some r := by first | (rw [hy887]; with_reducible exact H) | (have H2_ := (Option.bind_some _ _).symm.trans H; rw [hy887]; with_reducible exact H2_) | (have H2_ := (Option.bind_some _ _).symm.trans H; with_reducible exact H2_) | with_reducible exact H | (rw [hy887]; exact H) | exact H
                       have Ny887 := Aside0.mk hy887
                       clear hy887
                       have H' := Aside0.mk H
                       clear H
                       obtain ⟨Ao19, co19, eo19⟩ := Kd.R_slice HO_7.out
                       subst eo19
                       have p885 : 0 ≤ (x10_2 : Int) := of_decide_eq_true az
                       have q885 : x10_2 < (x7_1.length : Int) := of_decide_eq_true az
                       obtain ⟨ad885, e885, hx885_0⟩ := Kd.at_bool (Kd.R_reads' HO_7.out).2.2 x10_2 p885 q885
                       (try rw [← Nbq16.out] at hx885_0)
                       cases e885
                       replace p885 := eq_true p885
                       replace q885 := eq_true q885
                       have p886 : 0 ≤ (x10_2 : Int) := of_decide_eq_true az
                       have q886 : x10_2 < (l1.length : Int) := of_decide_eq_true az
                       obtain ⟨ad886, A886_0, c886_0, e886, hx886_0, hl886_0, hi886_0⟩ := at_T68 (Kd.V_reads' HO_1.out).2.2 x10_2 p886 q886
                       cases e886
                       obtain ⟨ce886, hce886, hMe886, hcc886⟩ := Kd.V_get HO_1.out z68 x10_2 p886 (by first | exact q886 | exact of_decide_eq_true az | (have e_ := (Kd.V_reads' HO_1.out).1; omega))
                       obtain ⟨ua886_0, uc886_0, rfl, ul886_0, ge886_0⟩ := k68_openF hMe886
                       have hv886_0 := hcc886 0 _ rfl
                       rw [Nat.add_zero, show (k68).sz = 1 from rfl, Nat.mul_one] at hv886_0
                       replace hv886_0 := Option.some.inj (hv886_0.symm.trans hx886_0)
                       injection hv886_0 with hva_ hvn_ hvc_
                       rw [hva_] at ge886_0
                       rw [hvc_] at ul886_0
                       have HL886_0 := Aside0.mk (show Kd.V k130 130 _ w.heap.size _ _ ((rd_T68 l1 x10_2).f0) from Kd.V_mk ul886_0 ge886_0)
                       clear hva_ hvn_ hvc_ ge886_0 ul886_0
                       clear hcc886 hce886
                       have HR886_0 := Aside0.mk hi886_0
                       have HC886_0 := Aside0.mk hl886_0
                       clear hi886_0 hl886_0
                       replace p886 := eq_true p886
                       replace q886 := eq_true q886
                       go_wp2_with (first | ((with_reducible refine gate_builtin (b := .append) (xs := #[.tmp 33, .tmp 38]) rfl ?_); at_builtin; refine Kd.N_append k68 (w0 := w) w.heap.size rfl (.tmp 33) (.tmp 38) 52 68 (.agg #[(.slice none 0 0)]) 24 rfl Try.underlying52 info68 rfl (by decide) (by omega) u9 x9_2 (⟨(rd_T68 l1 x10_2).f0⟩ : S68) [.slice A886_0 ((rd_T68 l1 x10_2).f0).length c886_0] (fun k_ => ((P0_ k_ ∨ P1_ k_) ∨ w.heap.size ≤ k_) ∧ some k_ ≠ (.slice (some ad885) x7_1.length co19 : Value).ownBlock) (fun k_ => ((fun k_ => ((P0_ k_ ∨ P1_ k_) ∨ w.heap.size ≤ k_) ∧ some k_ ≠ (.slice (some ad885) x7_1.length co19 : Value).ownBlock)) k_ ∧ some k_ ≠ (u9 : Value).ownBlock) rfl rfl ?aP (fun _ hk => hk) ?aF ?aO ?aB ?aS ?aL ?_; (case aP => exact (k68_mkF _ _ (⟨(rd_T68 l1 x10_2).f0⟩ : S68) (Kd.V_reads' (Kd.V_mono (ok' := (fun k_ => ((fun k_ => ((P0_ k_ ∨ P1_ k_) ∨ w.heap.size ≤ k_) ∧ some k_ ≠ (.slice (some ad885) x7_1.length co19 : Value).ownBlock)) k_ ∧ some k_ ≠ (u9 : Value).ownBlock)) (HL886_0.out) (fun k_ hk => ⟨⟨hk.1, hk.2.1⟩, hk.2.2⟩))).2.1 (Kd.V_F (Kd.V_mono (ok' := (fun k_ => ((fun k_ => ((P0_ k_ ∨ P1_ k_) ∨ w.heap.size ≤ k_) ∧ some k_ ≠ (.slice (some ad885) x7_1.length co19 : Value).ownBlock)) k_ ∧ some k_ ≠ (u9 : Value).ownBlock)) (HL886_0.out) (fun k_ hk => ⟨⟨hk.1, hk.2.1⟩, hk.2.2⟩))))); (case aB => exact bz); (case aF => exact (fun k_ hk => ⟨(.inr (Nat.le_trans (below_size bz) hk)), Kd.fresh' (Kd.R_lt (rz HO_7.out)) k_ hk⟩)); (case aO => exact (by (with_reducible repeat (first | apply Kd.N_alloc | apply Kd.N_drewN | apply Kd.N_drew)); exact HO_9.out)); (case aS => exact (below_size bz)); (case aL => have := LMc18.out; omega); intro v888 w20 ho hb hg hat; rw [← Ny887.out] at ho; have n0_ := Aside0.mk (Kd.V_afterv (ok := (fun k_ => ((P0_ k_ ∨ P1_ k_) ∨ w.heap.size ≤ k_) ∧ some k_ ≠ (.slice (some ad885) x7_1.length co19 : Value).ownBlock)) (by (with_reducible repeat (first | apply Kd.V_alloc | apply Kd.V_drewN | apply Kd.V_drew)); exact Kd.V_mono HO_0.out (fun _ hk => ⟨⟨hk.1, hk.2.1⟩, hk.2.2⟩)) hg hat); have n1_ := Aside0.mk (Kd.V_afterv (ok := (fun k_ => ((P0_ k_ ∨ P1_ k_) ∨ w.heap.size ≤ k_) ∧ some k_ ≠ (.slice (some ad885) x7_1.length co19 : Value).ownBlock)) (by (with_reducible repeat (first | apply Kd.V_alloc | apply Kd.V_drewN | apply Kd.V_drew)); exact Kd.V_mono HO_1.out (fun _ hk => ⟨⟨hk.1, hk.2.1⟩, hk.2.2⟩)) hg hat); have n2_ := Aside0.mk (Kd.R_over' (rz HO_7.out) (Kd.N_typed (by (with_reducible repeat (first | apply Kd.N_alloc | apply Kd.N_drewN | apply Kd.N_drew)); exact HO_9.out)) (by decide) hg); have n3_ := Aside0.mk (Kd.V_afterv (ok := (fun k_ => ((P0_ k_ ∨ P1_ k_) ∨ w.heap.size ≤ k_) ∧ some k_ ≠ (.slice (some ad885) x7_1.length co19 : Value).ownBlock)) (by (with_reducible repeat (first | apply Kd.V_alloc | apply Kd.V_drewN | apply Kd.V_drew)); exact Kd.V_mono HL886_0.out (fun _ hk => ⟨⟨hk.1, hk.2.1⟩, hk.2.2⟩)) hg hat); have n4_ := Aside0.mk (hb); have n5_ := Aside0.mk (ho); clear HO_0; clear HO_1; clear HO_7; clear HL886_0; clear HB; clear HO_9; have HO_0 := n0_; have HO_1 := n1_; have HO_7 := n2_; have HL886_0 := n3_; have HB := n4_; have HO889 := n5_; clear n0_ n1_ n2_ n3_ n4_ n5_; clear ho hb hg hat))
                       go_roundg k2
                       case measure => have := HK1.out; have := HK2.out; omega
                       case rel => exact ⟨(y887), (wrap64 (x10_2 + 1)), sz_, H', ⟨by have := HK1.out; have := HK2.out; omega⟩, ⟨by (with_reducible repeat (first | apply Kd.V_alloc | apply Kd.V_drewN | apply Kd.V_drew)); exact Kd.V_mono HO_0.out (fun _ hk => ⟨hk.1.1, ⟨hk.1.2, hk.2⟩⟩)⟩, ⟨by (with_reducible repeat (first | apply Kd.V_alloc | apply Kd.V_drewN | apply Kd.V_drew)); exact Kd.V_mono HO_1.out (fun _ hk => ⟨hk.1.1, ⟨hk.1.2, hk.2⟩⟩)⟩, ⟨by (with_reducible repeat (first | apply Kd.R_alloc | apply Kd.R_drewN | apply Kd.R_drew)); exact HO_7.out⟩, ⟨by (with_reducible repeat (first | apply Kd.N_alloc | apply Kd.N_drewN | apply Kd.N_drew)); exact HO889.out⟩, ⟨ bz⟩⟩
                     · rw [if_neg c18] at H
                       exact absurd H (by simp)
                   · replace c17 := Bool.eq_false_iff.mpr c17
                     subst c17
                     have H1 : (spec_Gather.l1 k2 l0 l1 a2 x7_1 false x9_2 (wrap64 (x10_2 + 1))) = some r := by rw [if_neg (show ¬ (false = true) by decide)] at H; exact H
                     clear H
                     have H := H1
                     clear H1
                     have H' := Aside0.mk H
                     clear H
                     obtain ⟨Ao21, co21, eo21⟩ := Kd.R_slice HO_7.out
                     subst eo21
                     have p885 : 0 ≤ (x10_2 : Int) := of_decide_eq_true az
                     have q885 : x10_2 < (x7_1.length : Int) := of_decide_eq_true az
                     obtain ⟨ad885, e885, hx885_0⟩ := Kd.at_bool (Kd.R_reads' HO_7.out).2.2 x10_2 p885 q885
                     (try rw [← Nbq16.out] at hx885_0)
                     cases e885
                     replace p885 := eq_true p885
                     replace q885 := eq_true q885
                     go_wp2
                     go_roundg k2
                     case measure => have := HK1.out; have := HK2.out; omega
                     case rel => exact ⟨(x9_2), (wrap64 (x10_2 + 1)), sz_, H', ⟨by have := HK1.out; have := HK2.out; omega⟩, ⟨by (with_reducible repeat (first | apply Kd.V_alloc | apply Kd.V_drewN | apply Kd.V_drew)); exact HO_0.out⟩, ⟨by (with_reducible repeat (first | apply Kd.V_alloc | apply Kd.V_drewN | apply Kd.V_drew)); exact HO_1.out⟩, ⟨by (with_reducible repeat (first | apply Kd.R_alloc | apply Kd.R_drewN | apply Kd.R_drew)); exact HO_7.out⟩, ⟨by (with_reducible repeat (first | apply Kd.N_alloc | apply Kd.N_drewN | apply Kd.N_drew)); exact HO_9.out⟩, ⟨ bz⟩⟩
                 · rw [if_neg c15] at H
                   exact absurd H (by simp)
               · rw [if_neg c14] at H
                 exact absurd H (by simp)
             · rw [if_neg c13] at H
               have c13b0 : decide (x10_2 < (l1.length : Int)) = false := decide_eq_false c13
               clear c13
               replace H := Option.bind_eq_some_iff.mp H
               obtain ⟨t890, A220, H⟩ := H
               replace H : (spec_Gather.l2 k2 l0 l1 a2 x7_1 false x9_2 t890 0) = some r := H
               have A22 := Aside0.mk A220
               clear A220
               have H' := Aside0.mk H
               clear H
               obtain ⟨Ao23, co23, eo23⟩ := Kd.N_slice HO_9.out
               subst eo23
               go_wp2_with (first | ((with_reducible refine gate_callee (f := 90) rfl ?_); refine goesL_ (some 42) rfl rfl Try.func90 (by kernel_rfl) rfl #[.slice Ao23 x9_2.length co23, .string a2] rfl lz ?_; (with_reducible refine (spec_l20Wanted.calls k2 _ _ x9_2 a2 t890 _ ?side1 ?side2 A22.out).mono ?_); (case side1 => repeat (first | exact (Kd.N_reads' HO_9.out).2.2 | (with_reducible refine Kd.C_alloc ?_ _) | (with_reducible refine Kd.C_drewN ?_ _) | (with_reducible refine Kd.C_drew ?_))); (case side2 => exact (Kd.N_reads' HO_9.out).2.1); rintro e w24 ⟨v891, rfl, ho0, hb⟩; refine ⟨_, rfl, ?_⟩; have n0_ := Aside0.mk (Kd.V_elder' (by (with_reducible repeat (first | apply Kd.V_alloc | apply Kd.V_drewN | apply Kd.V_drew)); exact HO_0.out) (Kd.R_base ho0) hb); have n1_ := Aside0.mk (Kd.V_elder' (by (with_reducible repeat (first | apply Kd.V_alloc | apply Kd.V_drewN | apply Kd.V_drew)); exact HO_1.out) (Kd.R_base ho0) hb); have n2_ := Aside0.mk (Kd.R_below (rz HO_7.out) hb); have n3_ := Aside0.mk (Kd.N_elder' (by (with_reducible repeat (first | apply Kd.N_alloc | apply Kd.N_drewN | apply Kd.N_drew)); exact HO_9.out) (Kd.R_base ho0) hb); have n4_ := Aside0.mk (Kd.R_lower (Kd.R_newM (M := fun k_ => (w.heap.size ≤ k_)) ho0 (below_size bz) (fun k_ h_ => h_)) (below_size bz)); have n5_ := Aside0.mk (below_step bz hb); clear HO_0; clear HO_1; clear HO_7; clear HO_9; clear HB; have HO_0 := n0_; have HO_1 := n1_; have HO_7 := n2_; have HO_9 := n3_; have HO892 := n4_; have HB := n5_; clear n0_ n1_ n2_ n3_ n4_ n5_; (try clear hb); (try clear hb2); (try clear hk); (try clear hi); (try clear ho0)))
               go_loopg [8, 12] k2 (fun kq v8 v12 w' => ∃ (x7_3 : List Bool) (x8_3 : Bool) (x12_3 : Int), v8 = .bool x8_3 ∧ v12 = .int .i64 x12_3 ∧ Aside0 (spec_Gather.l2 kq l0 l1 a2 x7_3 x8_3 x9_2 t890 x12_3 = some r) ∧ Aside0 (kq ≤ k2) ∧ Aside0 (Kd.V k68 68 w' w.heap.size (fun k_ => ((P0_ k_ ∨ P1_ k_) ∨ w.heap.size ≤ k_) ∧ some k_ ≠ (v877 : Value).ownBlock ∧ some k_ ≠ ((.slice Ao23 x9_2.length co23) : Value).ownBlock ∧ some k_ ≠ (v891 : Value).ownBlock) (.slice A0 l0.length c0) l0) ∧ Aside0 (Kd.V k68 68 w' w.heap.size (fun k_ => ((P0_ k_ ∨ P1_ k_) ∨ w.heap.size ≤ k_) ∧ some k_ ≠ (v877 : Value).ownBlock ∧ some k_ ≠ ((.slice Ao23 x9_2.length co23) : Value).ownBlock ∧ some k_ ≠ (v891 : Value).ownBlock) (.slice A1 l1.length c1) l1) ∧ Aside0 (Kd.R Kd.bool 4 w' w.heap.size (fun k_ => (w.heap.size ≤ k_)) v877 x7_3) ∧ Aside0 (Kd.N k68 68 w' w.heap.size (fun k_ => ((P0_ k_ ∨ P1_ k_) ∨ w.heap.size ≤ k_) ∧ some k_ ≠ (v877 : Value).ownBlock ∧ some k_ ≠ (v891 : Value).ownBlock) (.slice Ao23 x9_2.length co23) x9_2) ∧ Aside0 (Kd.R Kd.string 9 w' w.heap.size (fun k_ => (w.heap.size ≤ k_)) v891 t890) ∧ Aside0 (Below w.heap.size w w'))
               case atStart => exact ⟨(x7_1), (false), (0), sz_, sz_, H', ⟨Nat.le_refl _⟩, ⟨by (with_reducible repeat (first | apply Kd.V_alloc | apply Kd.V_drewN | apply Kd.V_drew)); exact Kd.V_mono HO_0.out (fun _ hk => ⟨hk.1.1, ⟨hk.1.2.1, ⟨hk.1.2.2, hk.2⟩⟩⟩)⟩, ⟨by (with_reducible repeat (first | apply Kd.V_alloc | apply Kd.V_drewN | apply Kd.V_drew)); exact Kd.V_mono HO_1.out (fun _ hk => ⟨hk.1.1, ⟨hk.1.2.1, ⟨hk.1.2.2, hk.2⟩⟩⟩)⟩, ⟨by (with_reducible repeat (first | apply Kd.R_alloc | apply Kd.R_drewN | apply Kd.R_drew)); exact HO_7.out⟩, ⟨by (with_reducible repeat (first | apply Kd.N_alloc | apply Kd.N_drewN | apply Kd.N_drew)); exact Kd.N_mono HO_9.out (fun _ hk => ⟨hk.1.1, ⟨hk.1.2, hk.2⟩⟩)⟩, ⟨by (with_reducible repeat (first | apply Kd.R_alloc | apply Kd.R_drewN | apply Kd.R_drew)); exact Kd.R_mono HO892.out (fun _ hk => hk.1)⟩, ⟨ bz⟩⟩
               case round =>
                clear H'
                try clear c1
                try clear q1
                try clear p2
                try clear c4
                try clear c4b0
                try clear c4b1
                try clear c5
                try clear c5b0
                try clear c5b1
                try clear p6
                try clear c8
                try clear p8
                try clear q8
                try clear hx8
                try clear c9
                try clear c13
                try clear c13b0
                try clear c14
                try clear c14b0
                try clear c15
                try clear c15b0
                try clear q16
                try clear c17
                try clear c18
                try clear hx885_0
                try clear hx886_0
                try clear p2
                try clear p885
                try clear p886
                try clear q885
                try clear q886
                obtain ⟨x7_3, x8_3, x12_3, rfl, rfl, HA, HK3, HO_0, HO_1, HO_7, HO_9, HO_11, HB⟩ := hrel
                cases gk with
                | zero => exact absurd HA.out (by simp [spec_Gather.l2])
                | succ k3 =>
                 have H := HA.out
                 clear HA
                 simp only [spec_Gather.l2] at H
                 have HC25 := Aside0.mk H
                 clear H
                 go_upto_region 13 with (fail)
                 go_cut [50] (fun v50 wc => ∃ (kq : Nat) (x50_24 : Bool), v50 = .bool x50_24 ∧ Aside0 (spec_Gather.j3 kq l0 l1 a2 x7_3 x8_3 x9_2 t890 x12_3 x50_24 = some r) ∧ Aside0 (kq ≤ k3) ∧ Aside0 (Kd.V k68 68 wc w.heap.size (fun k_ => ((P0_ k_ ∨ P1_ k_) ∨ w.heap.size ≤ k_) ∧ some k_ ≠ (v877 : Value).ownBlock ∧ some k_ ≠ ((.slice Ao23 x9_2.length co23) : Value).ownBlock ∧ some k_ ≠ (v891 : Value).ownBlock) (.slice A0 l0.length c0) l0) ∧ Aside0 (Kd.V k68 68 wc w.heap.size (fun k_ => ((P0_ k_ ∨ P1_ k_) ∨ w.heap.size ≤ k_) ∧ some k_ ≠ (v877 : Value).ownBlock ∧ some k_ ≠ ((.slice Ao23 x9_2.length co23) : Value).ownBlock ∧ some k_ ≠ (v891 : Value).ownBlock) (.slice A1 l1.length c1) l1) ∧ Aside0 (Kd.R Kd.bool 4 wc w.heap.size (fun k_ => (w.heap.size ≤ k_)) v877 x7_3) ∧ Aside0 (Kd.N k68 68 wc w.heap.size (fun k_ => ((P0_ k_ ∨ P1_ k_) ∨ w.heap.size ≤ k_) ∧ some k_ ≠ (v877 : Value).ownBlock ∧ some k_ ≠ (v891 : Value).ownBlock) (.slice Ao23 x9_2.length co23) x9_2) ∧ Aside0 (Kd.R Kd.string 9 wc w.heap.size (fun k_ => (w.heap.size ≤ k_)) v891 t890) ∧ Aside0 (Below w.heap.size w wc))
                 case first =>
                  have H := HC25.out
                  clear HC25
                  by_cases c26 : x12_3 < (l1.length : Int)
                  · rw [if_pos c26] at H
                    have c26b0 : decide (x12_3 < (l1.length : Int)) = true := decide_eq_true c26
                    clear c26
                    (first | rw [c26b0] | (simp only [i64_w, i32_w]; rw [c26b0]) | skip)
                    have H' := Aside0.mk H
                    clear H
                    go_wp2
                    go_meet
                    case rel => exact ⟨_, (!x8_3), sz_, H', ⟨by have := HK1.out; have := HK2.out; have := HK3.out; first | omega | exact Nat.le_refl _⟩, ⟨by (with_reducible repeat (first | apply Kd.V_alloc | apply Kd.V_drewN | apply Kd.V_drew)); exact HO_0.out⟩, ⟨by (with_reducible repeat (first | apply Kd.V_alloc | apply Kd.V_drewN | apply Kd.V_drew)); exact HO_1.out⟩, ⟨by (with_reducible repeat (first | apply Kd.R_alloc | apply Kd.R_drewN | apply Kd.R_drew)); exact HO_7.out⟩, ⟨by (with_reducible repeat (first | apply Kd.N_alloc | apply Kd.N_drewN | apply Kd.N_drew)); exact HO_9.out⟩, ⟨by (with_reducible repeat (first | apply Kd.R_alloc | apply Kd.R_drewN | apply Kd.R_drew)); exact HO_11.out⟩, ⟨ bz⟩⟩
                  · rw [if_neg c26] at H
                    have c26b0 : decide (x12_3 < (l1.length : Int)) = false := decide_eq_false c26
                    clear c26
                    (first | rw [c26b0] | (simp only [i64_w, i32_w]; rw [c26b0]) | skip)
                    have H' := Aside0.mk H
                    clear H
                    go_wp2
                    go_meet
                    case rel => exact ⟨_, (false), sz_, H', ⟨by have := HK1.out; have := HK2.out; have := HK3.out; first | omega | exact Nat.le_refl _⟩, ⟨by (with_reducible repeat (first | apply Kd.V_alloc | apply Kd.V_drewN | apply Kd.V_drew)); exact HO_0.out⟩, ⟨by (with_reducible repeat (first | apply Kd.V_alloc | apply Kd.V_drewN | apply Kd.V_drew)); exact HO_1.out⟩, ⟨by (with_reducible repeat (first | apply Kd.R_alloc | apply Kd.R_drewN | apply Kd.R_drew)); exact HO_7.out⟩, ⟨by (with_reducible repeat (first | apply Kd.N_alloc | apply Kd.N_drewN | apply Kd.N_drew)); exact HO_9.out⟩, ⟨by (with_reducible repeat (first | apply Kd.R_alloc | apply Kd.R_drewN | apply Kd.R_drew)); exact HO_11.out⟩, ⟨ bz⟩⟩
                 case rest =>
                  clear HC25
                  try clear c1
                  try clear q1
                  try clear c2
                  try clear p2
                  try clear c4
                  try clear c4b0
                  try clear c4b1
                  try clear c5
                  try clear c5b0
                  try clear c5b1
                  try clear p6
                  try clear c8
                  try clear p8
                  try clear q8
                  try clear hx8
                  try clear c9
                  try clear c13
                  try clear c13b0
                  try clear c14
                  try clear c14b0
                  try clear c15
                  try clear c15b0
                  try clear q16
                  try clear c17
                  try clear c18
                  try clear c26
                  try clear c26b0
                  try clear hx885_0
                  try clear hx886_0
                  try clear p2
                  try clear p6
                  try clear p8
                  try clear p885
                  try clear p886
                  try clear q1
                  try clear q16
                  try clear q8
                  try clear q885
                  try clear q886
                  obtain ⟨kq, x50_24, rfl, HA, HJ24, HO_0, HO_1, HO_7, HO_9, HO_11, HB⟩ := hcut
                  cases kq with
                  | zero => exact absurd HA.out (by simp [spec_Gather.j3])
                  | succ kj24 =>
                   have H := HA.out
                   clear HA
                   simp only [spec_Gather.j3] at H
                   by_cases c27 : x50_24 = true
                   · subst c27
                     have H1 : (spec_Gather.l3 kj24 l0 l1 a2 x7_3 x8_3 x9_2 t890 x12_3 0) = some r := by rw [if_pos rfl] at H; exact H
                     clear H
                     have H := H1
                     clear H1
                     have H' := Aside0.mk H
                     clear H
                     go_wp2
                     go_loopg [8, 13] kj24 (fun kq v8 v13 w' => ∃ (x7_5 : List Bool) (x8_5 : Bool) (x13_5 : Int), v8 = .bool x8_5 ∧ v13 = .int .i64 x13_5 ∧ Aside0 (spec_Gather.l3 kq l0 l1 a2 x7_5 x8_5 x9_2 t890 x12_3 x13_5 = some r) ∧ Aside0 (kq ≤ kj24) ∧ Aside0 (Kd.V k68 68 w' w.heap.size (fun k_ => ((P0_ k_ ∨ P1_ k_) ∨ w.heap.size ≤ k_) ∧ some k_ ≠ (v877 : Value).ownBlock ∧ some k_ ≠ ((.slice Ao23 x9_2.length co23) : Value).ownBlock ∧ some k_ ≠ (v891 : Value).ownBlock) (.slice A0 l0.length c0) l0) ∧ Aside0 (Kd.V k68 68 w' w.heap.size (fun k_ => ((P0_ k_ ∨ P1_ k_) ∨ w.heap.size ≤ k_) ∧ some k_ ≠ (v877 : Value).ownBlock ∧ some k_ ≠ ((.slice Ao23 x9_2.length co23) : Value).ownBlock ∧ some k_ ≠ (v891 : Value).ownBlock) (.slice A1 l1.length c1) l1) ∧ Aside0 (Kd.R Kd.bool 4 w' w.heap.size (fun k_ => (w.heap.size ≤ k_)) v877 x7_5) ∧ Aside0 (Kd.N k68 68 w' w.heap.size (fun k_ => ((P0_ k_ ∨ P1_ k_) ∨ w.heap.size ≤ k_) ∧ some k_ ≠ (v877 : Value).ownBlock ∧ some k_ ≠ (v891 : Value).ownBlock) (.slice Ao23 x9_2.length co23) x9_2) ∧ Aside0 (Kd.R Kd.string 9 w' w.heap.size (fun k_ => (w.heap.size ≤ k_)) v891 t890) ∧ Aside0 (Below w.heap.size w w'))
                     case atStart => exact ⟨(x7_3), (x8_3), (0), sz_, sz_, H', ⟨Nat.le_refl _⟩, ⟨by (with_reducible repeat (first | apply Kd.V_alloc | apply Kd.V_drewN | apply Kd.V_drew)); exact HO_0.out⟩, ⟨by (with_reducible repeat (first | apply Kd.V_alloc | apply Kd.V_drewN | apply Kd.V_drew)); exact HO_1.out⟩, ⟨by (with_reducible repeat (first | apply Kd.R_alloc | apply Kd.R_drewN | apply Kd.R_drew)); exact HO_7.out⟩, ⟨by (with_reducible repeat (first | apply Kd.N_alloc | apply Kd.N_drewN | apply Kd.N_drew)); exact HO_9.out⟩, ⟨by (with_reducible repeat (first | apply Kd.R_alloc | apply Kd.R_drewN | apply Kd.R_drew)); exact HO_11.out⟩, ⟨ bz⟩⟩
                     case round =>
                      clear H'
                      try clear c1
                      try clear q1
                      try clear c2
                      try clear p2
                      try clear c4
                      try clear c4b0
                      try clear c4b1
                      try clear c5
                      try clear c5b0
                      try clear c5b1
                      try clear p6
                      try clear c8
                      try clear p8
                      try clear q8
                      try clear hx8
                      try clear c9
                      try clear c13
                      try clear c13b0
                      try clear c14
                      try clear c14b0
                      try clear c15
                      try clear c15b0
                      try clear q16
                      try clear c17
                      try clear c18
                      try clear c26
                      try clear c26b0
                      try clear c27
                      try clear hx885_0
                      try clear hx886_0
                      try clear p2
                      try clear p6
                      try clear p8
                      try clear p885
                      try clear p886
                      try clear q1
                      try clear q16
                      try clear q8
                      try clear q885
                      try clear q886
                      obtain ⟨x7_5, x8_5, x13_5, rfl, rfl, HA, HK5, HO_0, HO_1, HO_7, HO_9, HO_11, HB⟩ := hrel
                      cases gk with
                      | zero => exact absurd HA.out (by simp [spec_Gather.l3])
                      | succ k5 =>
                       have H := HA.out
                       clear HA
                       simp only [spec_Gather.l3] at H
                       have HC28 := Aside0.mk H
                       clear H
                       go_upto_region 16 with (fail)
                       go_cut [63] (fun v63 wc => ∃ (kq : Nat) (x63_27 : Bool), v63 = .bool x63_27 ∧ Aside0 (spec_Gather.j5 kq l0 l1 a2 x7_5 x8_5 x9_2 t890 x12_3 x13_5 x63_27 = some r) ∧ Aside0 (kq ≤ k5) ∧ Aside0 (Kd.V k68 68 wc w.heap.size (fun k_ => ((P0_ k_ ∨ P1_ k_) ∨ w.heap.size ≤ k_) ∧ some k_ ≠ (v877 : Value).ownBlock ∧ some k_ ≠ ((.slice Ao23 x9_2.length co23) : Value).ownBlock ∧ some k_ ≠ (v891 : Value).ownBlock) (.slice A0 l0.length c0) l0) ∧ Aside0 (Kd.V k68 68 wc w.heap.size (fun k_ => ((P0_ k_ ∨ P1_ k_) ∨ w.heap.size ≤ k_) ∧ some k_ ≠ (v877 : Value).ownBlock ∧ some k_ ≠ ((.slice Ao23 x9_2.length co23) : Value).ownBlock ∧ some k_ ≠ (v891 : Value).ownBlock) (.slice A1 l1.length c1) l1) ∧ Aside0 (Kd.R Kd.bool 4 wc w.heap.size (fun k_ => (w.heap.size ≤ k_)) v877 x7_5) ∧ Aside0 (Kd.N k68 68 wc w.heap.size (fun k_ => ((P0_ k_ ∨ P1_ k_) ∨ w.heap.size ≤ k_) ∧ some k_ ≠ (v877 : Value).ownBlock ∧ some k_ ≠ (v891 : Value).ownBlock) (.slice Ao23 x9_2.length co23) x9_2) ∧ Aside0 (Kd.R Kd.string 9 wc w.heap.size (fun k_ => (w.heap.size ≤ k_)) v891 t890) ∧ Aside0 (Below w.heap.size w wc))
                       case first =>
                        have H := HC28.out
                        clear HC28
                        by_cases c29 : x13_5 < (t890.length : Int)
                        · rw [if_pos c29] at H
                          have c29b0 : decide (x13_5 < (t890.length : Int)) = true := decide_eq_true c29
                          clear c29
                          (first | rw [c29b0] | (simp only [i64_w, i32_w]; rw [c29b0]) | skip)
                          by_cases c30 : 0 ≤ x12_3
                          · rw [if_pos c30] at H
                            have c30b0 : decide (0 ≤ x12_3) = true := decide_eq_true c30
                            clear c30
                            by_cases c31 : x12_3 < (x7_5.length : Int)
                            · rw [if_pos c31] at H
                              have c31b0 : decide (x12_3 < (x7_5.length : Int)) = true := decide_eq_true c31
                              clear c31
                              have H' := Aside0.mk H
                              clear H
                              obtain ⟨Ao32, co32, eo32⟩ := Kd.R_slice HO_11.out
                              subst eo32
                              obtain ⟨Ao33, co33, eo33⟩ := Kd.R_slice HO_7.out
                              subst eo33
                              have p893 : 0 ≤ (x12_3 : Int) := of_decide_eq_true az
                              have q893 : x12_3 < (x7_5.length : Int) := of_decide_eq_true az
                              obtain ⟨ad893, e893, hx893_0⟩ := Kd.at_bool (Kd.R_reads' HO_7.out).2.2 x12_3 p893 q893
                              cases e893
                              replace p893 := eq_true p893
                              replace q893 := eq_true q893
                              go_wp2
                              go_meet
                              case rel => exact ⟨_, (!(rdOf false x7_5 x12_3)), sz_, H', ⟨by have := HK1.out; have := HK2.out; have := HK3.out; have := HJ24.out; have := HK5.out; first | omega | exact Nat.le_refl _⟩, ⟨by (with_reducible repeat (first | apply Kd.V_alloc | apply Kd.V_drewN | apply Kd.V_drew)); exact HO_0.out⟩, ⟨by (with_reducible repeat (first | apply Kd.V_alloc | apply Kd.V_drewN | apply Kd.V_drew)); exact HO_1.out⟩, ⟨by (with_reducible repeat (first | apply Kd.R_alloc | apply Kd.R_drewN | apply Kd.R_drew)); exact HO_7.out⟩, ⟨by (with_reducible repeat (first | apply Kd.N_alloc | apply Kd.N_drewN | apply Kd.N_drew)); exact HO_9.out⟩, ⟨by (with_reducible repeat (first | apply Kd.R_alloc | apply Kd.R_drewN | apply Kd.R_drew)); exact HO_11.out⟩, ⟨ bz⟩⟩
                            · rw [if_neg c31] at H
                              exact absurd H (by simp)
                          · rw [if_neg c30] at H
                            exact absurd H (by simp)
                        · rw [if_neg c29] at H
                          have c29b0 : decide (x13_5 < (t890.length : Int)) = false := decide_eq_false c29
                          clear c29
                          (first | rw [c29b0] | (simp only [i64_w, i32_w]; rw [c29b0]) | skip)
                          have H' := Aside0.mk H
                          clear H
                          obtain ⟨Ao34, co34, eo34⟩ := Kd.R_slice HO_11.out
                          subst eo34
                          go_wp2
                          go_meet
                          case rel => exact ⟨_, (false), sz_, H', ⟨by have := HK1.out; have := HK2.out; have := HK3.out; have := HJ24.out; have := HK5.out; first | omega | exact Nat.le_refl _⟩, ⟨by (with_reducible repeat (first | apply Kd.V_alloc | apply Kd.V_drewN | apply Kd.V_drew)); exact HO_0.out⟩, ⟨by (with_reducible repeat (first | apply Kd.V_alloc | apply Kd.V_drewN | apply Kd.V_drew)); exact HO_1.out⟩, ⟨by (with_reducible repeat (first | apply Kd.R_alloc | apply Kd.R_drewN | apply Kd.R_drew)); exact HO_7.out⟩, ⟨by (with_reducible repeat (first | apply Kd.N_alloc | apply Kd.N_drewN | apply Kd.N_drew)); exact HO_9.out⟩, ⟨by (with_reducible repeat (first | apply Kd.R_alloc | apply Kd.R_drewN | apply Kd.R_drew)); exact HO_11.out⟩, ⟨ bz⟩⟩
                       case rest =>
                        clear HC28
                        try clear c1
                        try clear q1
                        try clear c2
                        try clear p2
                        try clear c3
                        try clear c4
                        try clear c4b0
                        try clear c4b1
                        try clear c5
                        try clear c5b0
                        try clear c5b1
                        try clear p6
                        try clear c8
                        try clear p8
                        try clear q8
                        try clear hx8
                        try clear c9
                        try clear c13
                        try clear c13b0
                        try clear c14
                        try clear c14b0
                        try clear c15
                        try clear c15b0
                        try clear q16
                        try clear c17
                        try clear c18
                        try clear c26
                        try clear c26b0
                        try clear c27
                        try clear c29
                        try clear c29b0
                        try clear c30
                        try clear c30b0
                        try clear c31
                        try clear c31b0
                        try clear hx885_0
                        try clear hx886_0
                        try clear hx893_0
                        try clear p2
                        try clear p6
                        try clear p8
                        try clear p885
                        try clear p886
                        try clear p893
                        try clear q1
                        try clear q16
                        try clear q8
                        try clear q885
                        try clear q886
                        try clear q893
                        obtain ⟨kq, x63_27, rfl, HA, HJ27, HO_0, HO_1, HO_7, HO_9, HO_11, HB⟩ := hcut
                        cases kq with
                        | zero => exact absurd HA.out (by simp [spec_Gather.j5])
                        | succ kj27 =>
                         have H := HA.out
                         clear HA
                         simp only [spec_Gather.j5] at H
                         by_cases c35 : x63_27 = true
                         · subst c35
                           have H1 : (if 0 ≤ x12_3 then (if x12_3 < (l1.length : Int) then (if 0 ≤ x13_5 then (if x13_5 < (t890.length : Int) then ((spec_l20Defines.f kj27 ((rd_T68 l1 x12_3).f0) (rdOf ByteArray.empty t890 x13_5)).bind fun t896 => (if t896 = true then ((spec_l20Of.f kj27 x9_2 (-1) (rdOf ByteArray.empty t890 x13_5)).bind fun bt898 => (if bt898.1 < 0 then (if x12_3 < (x7_5.length : Int) then (spec_Gather.l3 kj27 l0 l1 a2 (x7_5.set (x12_3 : Int).toNat true) true x9_2 t890 x12_3 (wrap64 (x13_5 + 1))) else (none)) else (spec_Gather.l3 kj27 l0 l1 a2 x7_5 x8_5 x9_2 t890 x12_3 (wrap64 (x13_5 + 1))))) else (spec_Gather.l3 kj27 l0 l1 a2 x7_5 x8_5 x9_2 t890 x12_3 (wrap64 (x13_5 + 1))))) else (none)) else (none)) else (none)) else (none)) = some r := by rw [if_pos rfl] at H; exact H
                           clear H
                           have H := H1
                           clear H1
                           by_cases c36 : 0 ≤ x12_3
                           · rw [if_pos c36] at H
                             have c36b0 : decide (0 ≤ x12_3) = true := decide_eq_true c36
                             clear c36
                             by_cases c37 : x12_3 < (l1.length : Int)
                             · rw [if_pos c37] at H
                               have c37b0 : decide (x12_3 < (l1.length : Int)) = true := decide_eq_true c37
                               clear c37
                               by_cases c38 : 0 ≤ x13_5
                               · rw [if_pos c38] at H
                                 have c38b0 : decide (0 ≤ x13_5) = true := decide_eq_true c38
                                 clear c38
                                 by_cases c39 : x13_5 < (t890.length : Int)
                                 · rw [if_pos c39] at H
                                   have c39b0 : decide (x13_5 < (t890.length : Int)) = true := decide_eq_true c39
                                   clear c39
                                   replace H := Option.bind_eq_some_iff.mp H
                                   obtain ⟨t896, A400, H⟩ := H
                                   replace H : (if t896 = true then ((spec_l20Of.f kj27 x9_2 (-1) (rdOf ByteArray.empty t890 x13_5)).bind fun bt898 => (if bt898.1 < 0 then (if x12_3 < (x7_5.length : Int) then (spec_Gather.l3 kj27 l0 l1 a2 (x7_5.set (x12_3 : Int).toNat true) true x9_2 t890 x12_3 (wrap64 (x13_5 + 1))) else (none)) else (spec_Gather.l3 kj27 l0 l1 a2 x7_5 x8_5 x9_2 t890 x12_3 (wrap64 (x13_5 + 1))))) else (spec_Gather.l3 kj27 l0 l1 a2 x7_5 x8_5 x9_2 t890 x12_3 (wrap64 (x13_5 + 1)))) = some r := H
                                   have A40 := Aside0.mk A400
                                   clear A400
                                   by_cases c41 : t896 = true
                                   · subst c41
                                     have H1 : ((spec_l20Of.f kj27 x9_2 (-1) (rdOf ByteArray.empty t890 x13_5)).bind fun bt898 => (if bt898.1 < 0 then (if x12_3 < (x7_5.length : Int) then (spec_Gather.l3 kj27 l0 l1 a2 (x7_5.set (x12_3 : Int).toNat true) true x9_2 t890 x12_3 (wrap64 (x13_5 + 1))) else (none)) else (spec_Gather.l3 kj27 l0 l1 a2 x7_5 x8_5 x9_2 t890 x12_3 (wrap64 (x13_5 + 1))))) = some r := by rw [if_pos rfl] at H; exact H
                                     clear H
                                     have H := H1
                                     clear H1
                                     replace H := Option.bind_eq_some_iff.mp H
                                     obtain ⟨⟨t898, t899⟩, A420, H⟩ := H
                                     replace H : (if t898 < 0 then (if x12_3 < (x7_5.length : Int) then (spec_Gather.l3 kj27 l0 l1 a2 (x7_5.set (x12_3 : Int).toNat true) true x9_2 t890 x12_3 (wrap64 (x13_5 + 1))) else (none)) else (spec_Gather.l3 kj27 l0 l1 a2 x7_5 x8_5 x9_2 t890 x12_3 (wrap64 (x13_5 + 1)))) = some r := H
                                     have A42 := Aside0.mk A420
                                     clear A420
                                     by_cases c43 : t898 < 0
                                     · rw [if_pos c43] at H
                                       have c43b0 : decide (t898 < 0) = true := decide_eq_true c43
                                       clear c43
                                       by_cases c44 : x12_3 < (x7_5.length : Int)
                                       · rw [if_pos c44] at H
                                         have c44b0 : decide (x12_3 < (x7_5.length : Int)) = true := decide_eq_true c44
                                         clear c44
                                         obtain ⟨y900, hy900⟩ : ∃ y_ : List Bool, y_ = (x7_5.set (x12_3 : Int).toNat true) := ⟨_, rfl⟩
                                         replace H : (spec_Gather.l3 kj27 l0 l1 a2 y900 true x9_2 t890 x12_3 (wrap64 (x13_5 + 1))) = some r := by first | (rw [hy900]; with_reducible exact H) | (have H2_ := (Option.bind_some _ _).symm.trans H; rw [hy900]; with_reducible exact H2_) | (have H2_ := (Option.bind_some _ _).symm.trans H; with_reducible exact H2_) | with_reducible exact H | (rw [hy900]; exact H) | exact H
                                         have Ny900 := Aside0.mk hy900
                                         clear hy900
                                         have H' := Aside0.mk H
                                         clear H
                                         try go_wp2
                                         have n0_ := Aside0.mk (Kd.V_drew HO_0.out)
                                         have n1_ := Aside0.mk (Kd.V_drew HO_1.out)
                                         have n2_ := Aside0.mk (Kd.R_drew HO_7.out)
                                         have n3_ := Aside0.mk (Kd.N_drew HO_9.out)
                                         have n4_ := Aside0.mk (Kd.R_drew HO_11.out)
                                         have n5_ := Aside0.mk (below_drew1 HB.out)
                                         clear HO_0
                                         clear HO_1
                                         clear HO_7
                                         clear HO_9
                                         clear HO_11
                                         clear HB
                                         have HO_0 := n0_
                                         have HO_1 := n1_
                                         have HO_7 := n2_
                                         have HO_9 := n3_
                                         have HO_11 := n4_
                                         have HB := n5_
                                         clear n0_ n1_ n2_ n3_ n4_ n5_
                                         have p894 : 0 ≤ (x12_3 : Int) := of_decide_eq_true az
                                         have q894 : x12_3 < (l1.length : Int) := of_decide_eq_true az
                                         obtain ⟨ad894, A894_0, c894_0, e894, hx894_0, hl894_0, hi894_0⟩ := at_T68 (Kd.V_reads' HO_1.out).2.2 x12_3 p894 q894
                                         cases e894
                                         obtain ⟨ce894, hce894, hMe894, hcc894⟩ := Kd.V_get HO_1.out z68 x12_3 p894 (by first | exact q894 | exact of_decide_eq_true az | (have e_ := (Kd.V_reads' HO_1.out).1; omega))
                                         obtain ⟨ua894_0, uc894_0, rfl, ul894_0, ge894_0⟩ := k68_openF hMe894
                                         have hv894_0 := hcc894 0 _ rfl
                                         rw [Nat.add_zero, show (k68).sz = 1 from rfl, Nat.mul_one] at hv894_0
                                         replace hv894_0 := Option.some.inj (hv894_0.symm.trans hx894_0)
                                         injection hv894_0 with hva_ hvn_ hvc_
                                         rw [hva_] at ge894_0
                                         rw [hvc_] at ul894_0
                                         have HL894_0 := Aside0.mk (show Kd.V k130 130 _ w.heap.size _ _ ((rd_T68 l1 x12_3).f0) from Kd.V_mk ul894_0 ge894_0)
                                         clear hva_ hvn_ hvc_ ge894_0 ul894_0
                                         clear hcc894 hce894
                                         have HR894_0 := Aside0.mk hi894_0
                                         have HC894_0 := Aside0.mk hl894_0
                                         clear hi894_0 hl894_0
                                         replace p894 := eq_true p894
                                         replace q894 := eq_true q894
                                         obtain ⟨Ao47, co47, eo47⟩ := Kd.R_slice HO_11.out
                                         (first | subst eo47 | (injection eo47 with f1_ f2_ f3_; have f4_ := f1_.symm; have f5_ := f3_.symm; clear f1_ f2_ f3_; subst f4_; subst f5_))
                                         have p895 : 0 ≤ (x13_5 : Int) := of_decide_eq_true az
                                         have q895 : x13_5 < (t890.length : Int) := of_decide_eq_true az
                                         obtain ⟨ad895, e895, hx895_0⟩ := Kd.at_string (Kd.R_reads' HO_11.out).2.2 x13_5 p895 q895
                                         cases e895
                                         replace p895 := eq_true p895
                                         replace q895 := eq_true q895
                                         have p897 : 0 ≤ (x13_5 : Int) := of_decide_eq_true az
                                         have q897 : x13_5 < (t890.length : Int) := of_decide_eq_true az
                                         obtain ⟨ad897, e897, hx897_0⟩ := Kd.at_string (Kd.R_reads' HO_11.out).2.2 x13_5 p897 q897
                                         obtain rfl : ad895 = ad897 := (by injection e897)
                                         replace p897 := eq_true p897
                                         replace q897 := eq_true q897
                                         refine start_ (n := 19) (S := fun w' => w'.cell? (ad894.add (x12_3).toNat) = some (.slice A894_0 ((rd_T68 l1 x12_3).f0).length c894_0) ∧ w'.cell? (ad895.add (x13_5).toNat) = some (.string (rdOf ByteArray.empty t890 x13_5)) ∧ w'.cell? (ad895.add (x13_5).toNat) = some (.string (rdOf ByteArray.empty t890 x13_5))) (ds := []) #[false, false, false, false, false, false, false, false, false, false, false, false, false, false, false, false, false, false, false] (by kernel_rfl) rfl rfl ⟨hx894_0, hx895_0, hx897_0⟩ (fun hHeld => ?_); refine with_tabW spec_Gather.tab18 spec_Gather.bits18 (fun HT_ HW_ => ?_)
                                         generalize wc.drew = w46 at HO_0 HO_1 HO_7 HO_9 HO_11 HB HL894_0 HR894_0 hx894_0 hx895_0 hx897_0 hHeld ⊢
                                         refine pure_ (i := 0) (N := some 66) (v := ?_) (a' := ?_) #[true, false, false, false, false, false, false, false, false, false, false, false, false, false, false, false, false, false, false] rfl rfl (any_of HT_.out (by kernel_rfl)) (fun _ _ _ h => h) (Or.inl ⟨by rfl, ?_⟩) ?_ ?_
                                         rotate_left
                                         · intro w'
                                           go_simp
                                           with_reducible rfl
                                         rotate_left
                                         · simp only [Act.put, sx1, sx2, sx3, i64_w, i32_w]
                                           rfl
                                         refine pure_ (i := 1) (N := some 67) (v := ?_) (a' := ?_) #[true, true, false, false, false, false, false, false, false, false, false, false, false, false, false, false, false, false, false] rfl rfl (any_of HT_.out (by kernel_rfl)) (fun _ _ _ h => h) (Or.inl ⟨by rfl, ?_⟩) ?_ ?_
                                         rotate_left
                                         · intro w'
                                           go_simp
                                           with_reducible rfl
                                         rotate_left
                                         · simp only [Act.put, sx1, sx2, sx3, i64_w, i32_w]
                                           rfl
                                         refine pure_ (i := 2) (N := some 68) (v := ?_) (a' := ?_) #[true, true, true, false, false, false, false, false, false, false, false, false, false, false, false, false, false, false, false] rfl rfl (any_of HT_.out (by kernel_rfl)) (fun _ _ _ h => h) (Or.inl ⟨by rfl, ?_⟩) ?_ ?_
                                         rotate_left
                                         · intro w'
                                           go_simp
                                           with_reducible rfl
                                         rotate_left
                                         · simp only [Act.put, sx1, sx2, sx3, i64_w, i32_w]
                                           rfl
                                         refine pure_ (i := 4) (N := some 70) (v := ?_) (a' := ?_) #[true, true, true, false, true, false, false, false, false, false, false, false, false, false, false, false, false, false, false] rfl rfl (any_of HT_.out (by kernel_rfl)) (fun _ _ _ h => h) (Or.inl ⟨by rfl, ?_⟩) ?_ ?_
                                         rotate_left
                                         · intro w'
                                           go_simp
                                           with_reducible rfl
                                         rotate_left
                                         · simp only [Act.put, sx1, sx2, sx3, i64_w, i32_w]
                                           rfl
                                         refine pure_ (i := 5) (N := some 71) (v := ?_) (a' := ?_) #[true, true, true, false, true, true, false, false, false, false, false, false, false, false, false, false, false, false, false] rfl rfl (any_of HT_.out (by kernel_rfl)) (fun _ _ _ h => h) (Or.inl ⟨by rfl, ?_⟩) ?_ ?_
                                         rotate_left
                                         · intro w'
                                           go_simp
                                           with_reducible rfl
                                         rotate_left
                                         · simp only [Act.put, sx1, sx2, sx3, i64_w, i32_w]
                                           rfl
                                         refine pure_ (i := 6) (N := some 72) (v := ?_) (a' := ?_) #[true, true, true, false, true, true, true, false, false, false, false, false, false, false, false, false, false, false, false] rfl rfl (any_of HT_.out (by kernel_rfl)) (fun _ _ _ h => h) (Or.inl ⟨by rfl, ?_⟩) ?_ ?_
                                         rotate_left
                                         · intro w'
                                           go_simp
                                           with_reducible rfl
                                         rotate_left
                                         · simp only [Act.put, sx1, sx2, sx3, i64_w, i32_w]
                                           rfl
                                         refine take_ (i := 3) (N := some 69) (v := ?_) (a' := ?_) #[true, true, true, true, true, true, true, false, false, false, false, false, false, false, false, false, false, false, false] rfl rfl (take_ofW HT_.out HW_.out (by kernel_rfl)) (fun _ _ _ h => h) (Or.inl ⟨by rfl, ?_⟩) hHeld ?_ ?_
                                         rotate_left
                                         · rintro w' ⟨s0, s1, s2⟩
                                           go_simp
                                           with_reducible rfl
                                         rotate_left
                                         · simp only [Act.put, sx1, sx2, sx3, i64_w, i32_w]
                                           rfl
                                         refine take_ (i := 7) (N := some 73) (v := ?_) (a' := ?_) #[true, true, true, true, true, true, true, true, false, false, false, false, false, false, false, false, false, false, false] rfl rfl (take_ofW HT_.out HW_.out (by kernel_rfl)) (fun _ _ _ h => h) (Or.inl ⟨by rfl, ?_⟩) hHeld ?_ ?_
                                         rotate_left
                                         · rintro w' ⟨s0, s1, s2⟩
                                           go_simp
                                           with_reducible rfl
                                         rotate_left
                                         · simp only [Act.put, sx1, sx2, sx3, i64_w, i32_w]
                                           rfl
                                         refine one_ (i := 8) (N := some 74) #[true, true, true, true, true, true, true, true, true, false, false, false, false, false, false, false, false, false, false] rfl rfl (one_of HT_.out (by kernel_rfl)) (by decide) (fun K hK => ?_)
                                         refine goes_ Try.func91 (by kernel_rfl) rfl #[.agg #[.slice A894_0 ((rd_T68 l1 x12_3).f0).length c894_0], .string (rdOf ByteArray.empty t890 x13_5)] (by rfl) rfl rfl lz ?_
                                         with_reducible refine (spec_l20Defines.calls kj27 (fun k_ => (((P0_ k_ ∨ P1_ k_) ∨ w.heap.size ≤ k_) ∧ (some k_ ≠ (v877 : Value).ownBlock ∧ (some k_ ≠ (.slice Ao23 x9_2.length co23 : Value).ownBlock ∧ some k_ ≠ (.slice (some ad895) t890.length co47 : Value).ownBlock)))) _ _ ((rd_T68 l1 x12_3).f0) (rdOf ByteArray.empty t890 x13_5) true _ ?side1 A40.out).mono ?_
                                         (case side1 => exact HL894_0.out)
                                         rintro e w48 ⟨rfl, hb⟩
                                         have HS0_ := (hb.cell (World.block_lt_of_cell? _ _ (hHeld.1))).trans (hHeld.1)
                                         have HS1_ := (hb.cell (World.block_lt_of_cell? _ _ (hHeld.2.1))).trans (hHeld.2.1)
                                         have HS2_ := (hb.cell (World.block_lt_of_cell? _ _ (hHeld.2.2))).trans (hHeld.2.2)
                                         refine ⟨_, rfl, ?_⟩
                                         have n0_ := Aside0.mk (Kd.V_below (by (with_reducible repeat (first | apply Kd.V_alloc | apply Kd.V_drewN | apply Kd.V_drew)); exact HO_0.out) hb)
                                         have n1_ := Aside0.mk (Kd.V_below (by (with_reducible repeat (first | apply Kd.V_alloc | apply Kd.V_drewN | apply Kd.V_drew)); exact HO_1.out) hb)
                                         have n2_ := Aside0.mk (Kd.R_below (rz HO_7.out) hb)
                                         have n3_ := Aside0.mk (Kd.N_below (by (with_reducible repeat (first | apply Kd.N_alloc | apply Kd.N_drewN | apply Kd.N_drew)); exact HO_9.out) hb)
                                         have n4_ := Aside0.mk (Kd.R_below (rz HO_11.out) hb)
                                         have n5_ := Aside0.mk (Kd.V_below (by (with_reducible repeat (first | apply Kd.V_alloc | apply Kd.V_drewN | apply Kd.V_drew)); exact HL894_0.out) hb)
                                         have n6_ := Aside0.mk (Kd.C_below (by repeat (first | (with_reducible exact HR894_0.out) | (with_reducible refine Kd.C_alloc ?_ _) | (with_reducible refine Kd.C_drewN ?_ _) | (with_reducible refine Kd.C_drew ?_) | exact HR894_0.out)) hb)
                                         have n7_ := Aside0.mk (below_step bz hb)
                                         clear HO_0
                                         clear HO_1
                                         clear HO_7
                                         clear HO_9
                                         clear HO_11
                                         clear HL894_0
                                         clear HR894_0
                                         clear HB
                                         have HO_0 := n0_
                                         have HO_1 := n1_
                                         have HO_7 := n2_
                                         have HO_9 := n3_
                                         have HO_11 := n4_
                                         have HL894_0 := n5_
                                         have HR894_0 := n6_
                                         have HB := n7_
                                         clear n0_ n1_ n2_ n3_ n4_ n5_ n6_ n7_
                                         (try clear hb)
                                         (try clear hb2)
                                         (try clear hk)
                                         (try clear hi)
                                         refine hK.out _ _ ⟨HS0_, HS1_, HS2_⟩ (fun hHeld => ?_)
                                         clear hK K
                                         refine norm_ (a' := ?_) ?_ ?_
                                         rotate_left
                                         · show Act.put _ (some 74) _ = _
                                           simp only [Act.put, sx1, sx2, sx3, i64_w, i32_w]
                                           rfl
                                         refine pure_ (i := 9) (N := some 75) (v := ?_) (a' := ?_) #[true, true, true, true, true, true, true, true, true, true, false, false, false, false, false, false, false, false, false] rfl rfl (any_of HT_.out (by kernel_rfl)) (fun _ _ _ h => h) (Or.inl ⟨by rfl, ?_⟩) ?_ ?_
                                         rotate_left
                                         · intro w'
                                           go_simp
                                           with_reducible rfl
                                         rotate_left
                                         · simp only [Act.put, sx1, sx2, sx3, i64_w, i32_w]
                                           rfl
                                         refine pure_ (i := 10) (N := some 76) (v := ?_) (a' := ?_) #[true, true, true, true, true, true, true, true, true, true, true, false, false, false, false, false, false, false, false] rfl rfl (any_of HT_.out (by kernel_rfl)) (fun _ _ _ h => h) (Or.inl ⟨by rfl, ?_⟩) ?_ ?_
                                         rotate_left
                                         · intro w'
                                           go_simp
                                           with_reducible rfl
                                         rotate_left
                                         · simp only [Act.put, sx1, sx2, sx3, i64_w, i32_w]
                                           rfl
                                         refine pure_ (i := 11) (N := some 77) (v := ?_) (a' := ?_) #[true, true, true, true, true, true, true, true, true, true, true, true, false, false, false, false, false, false, false] rfl rfl (any_of HT_.out (by kernel_rfl)) (fun _ _ _ h => h) (Or.inl ⟨by rfl, ?_⟩) ?_ ?_
                                         rotate_left
                                         · intro w'
                                           go_simp
                                           with_reducible rfl
                                         rotate_left
                                         · simp only [Act.put, sx1, sx2, sx3, i64_w, i32_w]
                                           rfl
                                         refine pure_ (i := 12) (N := some 78) (v := ?_) (a' := ?_) #[true, true, true, true, true, true, true, true, true, true, true, true, true, false, false, false, false, false, false] rfl rfl (any_of HT_.out (by kernel_rfl)) (fun _ _ _ h => h) (Or.inl ⟨by rfl, ?_⟩) ?_ ?_
                                         rotate_left
                                         · intro w'
                                           go_simp
                                           with_reducible rfl
                                         rotate_left
                                         · simp only [Act.put, sx1, sx2, sx3, i64_w, i32_w]
                                           rfl
                                         refine pure_ (i := 13) (N := some 79) (v := ?_) (a' := ?_) #[true, true, true, true, true, true, true, true, true, true, true, true, true, true, false, false, false, false, false] rfl rfl (any_of HT_.out (by kernel_rfl)) (fun _ _ _ h => h) (Or.inl ⟨by rfl, ?_⟩) ?_ ?_
                                         rotate_left
                                         · intro w'
                                           go_simp
                                           with_reducible rfl
                                         rotate_left
                                         · simp only [Act.put, sx1, sx2, sx3, i64_w, i32_w]
                                           rfl
                                         refine take_ (i := 14) (N := some 80) (v := ?_) (a' := ?_) #[true, true, true, true, true, true, true, true, true, true, true, true, true, true, true, false, false, false, false] rfl rfl (take_ofW HT_.out HW_.out (by kernel_rfl)) (fun _ _ _ h => h) (Or.inl ⟨by rfl, ?_⟩) hHeld ?_ ?_
                                         rotate_left
                                         · rintro w' ⟨s0, s1, s2⟩
                                           go_simp
                                           with_reducible rfl
                                         rotate_left
                                         · simp only [Act.put, sx1, sx2, sx3, i64_w, i32_w]
                                           rfl
                                         refine one_ (i := 15) (N := some 81) #[true, true, true, true, true, true, true, true, true, true, true, true, true, true, true, true, false, false, false] rfl rfl (one_of HT_.out (by kernel_rfl)) (by decide) (fun K hK => ?_)
                                         refine goes_ Try.func85 (by kernel_rfl) rfl #[.slice Ao23 x9_2.length co23, .int .i64 (-1), .string (rdOf ByteArray.empty t890 x13_5)] (by rfl) rfl rfl lz ?_
                                         with_reducible refine (spec_l20Of.calls kj27 (fun k_ => (((P0_ k_ ∨ P1_ k_) ∨ w.heap.size ≤ k_) ∧ (some k_ ≠ (v877 : Value).ownBlock ∧ some k_ ≠ (.slice (some ad895) t890.length co47 : Value).ownBlock))) _ _ x9_2 (-1) (rdOf ByteArray.empty t890 x13_5) t898 t899 _ ?side1 A42.out).mono ?_
                                         (case side1 => exact Kd.N_V (HO_9.out))
                                         rintro e w49 ⟨rfl, hb⟩
                                         have HS0_ := (hb.cell (World.block_lt_of_cell? _ _ (hHeld.1))).trans (hHeld.1)
                                         have HS1_ := (hb.cell (World.block_lt_of_cell? _ _ (hHeld.2.1))).trans (hHeld.2.1)
                                         have HS2_ := (hb.cell (World.block_lt_of_cell? _ _ (hHeld.2.2))).trans (hHeld.2.2)
                                         refine ⟨_, rfl, ?_⟩
                                         have n0_ := Aside0.mk (Kd.V_below (by (with_reducible repeat (first | apply Kd.V_alloc | apply Kd.V_drewN | apply Kd.V_drew)); exact HO_0.out) hb)
                                         have n1_ := Aside0.mk (Kd.V_below (by (with_reducible repeat (first | apply Kd.V_alloc | apply Kd.V_drewN | apply Kd.V_drew)); exact HO_1.out) hb)
                                         have n2_ := Aside0.mk (Kd.R_below (rz HO_7.out) hb)
                                         have n3_ := Aside0.mk (Kd.N_below (by (with_reducible repeat (first | apply Kd.N_alloc | apply Kd.N_drewN | apply Kd.N_drew)); exact HO_9.out) hb)
                                         have n4_ := Aside0.mk (Kd.R_below (rz HO_11.out) hb)
                                         have n5_ := Aside0.mk (Kd.V_below (by (with_reducible repeat (first | apply Kd.V_alloc | apply Kd.V_drewN | apply Kd.V_drew)); exact HL894_0.out) hb)
                                         have n6_ := Aside0.mk (Kd.C_below (by repeat (first | (with_reducible exact HR894_0.out) | (with_reducible refine Kd.C_alloc ?_ _) | (with_reducible refine Kd.C_drewN ?_ _) | (with_reducible refine Kd.C_drew ?_) | exact HR894_0.out)) hb)
                                         have n7_ := Aside0.mk (below_step bz hb)
                                         clear HO_0
                                         clear HO_1
                                         clear HO_7
                                         clear HO_9
                                         clear HO_11
                                         clear HL894_0
                                         clear HR894_0
                                         clear HB
                                         have HO_0 := n0_
                                         have HO_1 := n1_
                                         have HO_7 := n2_
                                         have HO_9 := n3_
                                         have HO_11 := n4_
                                         have HL894_0 := n5_
                                         have HR894_0 := n6_
                                         have HB := n7_
                                         clear n0_ n1_ n2_ n3_ n4_ n5_ n6_ n7_
                                         (try clear hb)
                                         (try clear hb2)
                                         (try clear hk)
                                         (try clear hi)
                                         refine hK.out _ _ ⟨HS0_, HS1_, HS2_⟩ (fun hHeld => ?_)
                                         clear hK K
                                         refine norm_ (a' := ?_) ?_ ?_
                                         rotate_left
                                         · show Act.put _ (some 81) _ = _
                                           simp only [Act.put, sx1, sx2, sx3, i64_w, i32_w]
                                           rfl
                                         refine pure_ (i := 16) (N := some 82) (v := ?_) (a' := ?_) #[true, true, true, true, true, true, true, true, true, true, true, true, true, true, true, true, true, false, false] rfl rfl (any_of HT_.out (by kernel_rfl)) (fun _ _ _ h => h) (Or.inl ⟨by rfl, ?_⟩) ?_ ?_
                                         rotate_left
                                         · intro w'
                                           go_simp
                                           with_reducible rfl
                                         rotate_left
                                         · simp only [Act.put, sx1, sx2, sx3, i64_w, i32_w]
                                           rfl
                                         refine pure_ (i := 17) (N := some 83) (v := ?_) (a' := ?_) #[true, true, true, true, true, true, true, true, true, true, true, true, true, true, true, true, true, true, false] rfl rfl (any_of HT_.out (by kernel_rfl)) (fun _ _ _ h => h) (Or.inl ⟨by rfl, ?_⟩) ?_ ?_
                                         rotate_left
                                         · intro w'
                                           go_simp
                                           with_reducible rfl
                                         rotate_left
                                         · simp only [Act.put, sx1, sx2, sx3, i64_w, i32_w]
                                           rfl
                                         refine pure_ (i := 18) (N := some 84) (v := ?_) (a' := ?_) #[true, true, true, true, true, true, true, true, true, true, true, true, true, true, true, true, true, true, true] rfl rfl (any_of HT_.out (by kernel_rfl)) (fun _ _ _ h => h) (Or.inl ⟨by rfl, ?_⟩) ?_ ?_
                                         rotate_left
                                         · intro w'
                                           go_simp
                                           with_reducible rfl
                                         rotate_left
                                         · simp only [Act.put, sx1, sx2, sx3, i64_w, i32_w]
                                           rfl
                                         refine done_ (done_of HT_.out (by kernel_rfl)) ?_
                                         have p45 : 0 ≤ (x12_3 : Int) := of_decide_eq_true az
                                         have q45 : (x12_3 : Int) < ((x7_5.length : Int) : Int) := of_decide_eq_true az
                                         obtain ⟨go45, co45, eo45, gb45, gl45, cl45, HG45⟩ := Kd.R_form HO_7.out (by omega)
                                         (first | cases eo45 | (injection eo45 with ea_ en_ ec_; (first | subst ea_ | (injection ea_ with ea_; subst ea_)); subst ec_; clear en_))
                                         have GB45 := Aside0.mk gb45
                                         have GG45 := Aside0.mk HG45
                                         clear gb45 gl45 HG45
                                         obtain ⟨hx45_0, hf45_0⟩ := Kd.R_celln false HO_7.out (x12_3 : Int) p45 q45
                                         replace p45 := eq_true p45
                                         replace q45 := eq_true q45
                                         obtain ⟨hy50_, hz50_⟩ := Kd.R_celln false HO_7.out (x12_3 : Int) (of_decide_eq_true az) (of_decide_eq_true az)
                                         have HP50 := Kd.R_putg HO_7.out (x12_3 : Int) true
                                         try go_wp2_with (first | ((with_reducible refine gate_store (t := 4) (p := 87) rfl ?_); refine store_event (t := 4) (p := 87) (v := ?vo_w51) (w1 := (w49.setCell ⟨go45, (x12_3 : Int).toNat, none⟩ (.bool true))) ?hg ?ho ?hn ?hr ?_; (case ho => rfl); (case hg => rfl); (case hn => rfl); (case hr => first | (go_simp; done) | (go_simp; rfl)); intro w51 hw; have hg : w49.grownBy w51 (some go45) := (by rw [hw]; exact HP50.2); have hp_ : Kd.R Kd.bool 4 w51 w.heap.size (fun k_ => (w.heap.size ≤ k_)) (.slice (some ⟨go45, 0, none⟩) x7_5.length co45) y900 := (by rw [hw, Ny900.out]; exact HP50.1); clear HP50; have n0_ := Aside0.mk (Kd.V_afterv (v := (.slice (some ⟨go45, 0, none⟩) x7_5.length co45)) (v1 := (.slice (some ⟨go45, 0, none⟩) x7_5.length co45)) (ok := (fun k_ => ((P0_ k_ ∨ P1_ k_) ∨ w.heap.size ≤ k_) ∧ some k_ ≠ (.slice Ao23 x9_2.length co23 : Value).ownBlock ∧ some k_ ≠ (.slice (some ad895) t890.length co47 : Value).ownBlock)) (by (with_reducible repeat (first | apply Kd.V_alloc | apply Kd.V_drewN | apply Kd.V_drew)); exact Kd.V_mono HO_0.out (fun _ hk => ⟨⟨hk.1, ⟨hk.2.2.1, hk.2.2.2⟩⟩, hk.2.1⟩)) hg (.inl rfl)); have n1_ := Aside0.mk (Kd.V_afterv (v := (.slice (some ⟨go45, 0, none⟩) x7_5.length co45)) (v1 := (.slice (some ⟨go45, 0, none⟩) x7_5.length co45)) (ok := (fun k_ => ((P0_ k_ ∨ P1_ k_) ∨ w.heap.size ≤ k_) ∧ some k_ ≠ (.slice Ao23 x9_2.length co23 : Value).ownBlock ∧ some k_ ≠ (.slice (some ad895) t890.length co47 : Value).ownBlock)) (by (with_reducible repeat (first | apply Kd.V_alloc | apply Kd.V_drewN | apply Kd.V_drew)); exact Kd.V_mono HO_1.out (fun _ hk => ⟨⟨hk.1, ⟨hk.2.2.1, hk.2.2.2⟩⟩, hk.2.1⟩)) hg (.inl rfl)); have n2_ := Aside0.mk (hp_); have n3_ := Aside0.mk (Kd.N_afterv (v := (.slice (some ⟨go45, 0, none⟩) x7_5.length co45)) (v1 := (.slice (some ⟨go45, 0, none⟩) x7_5.length co45)) (ok := (fun k_ => ((P0_ k_ ∨ P1_ k_) ∨ w.heap.size ≤ k_) ∧ some k_ ≠ (.slice (some ad895) t890.length co47 : Value).ownBlock)) (by (with_reducible repeat (first | apply Kd.N_alloc | apply Kd.N_drewN | apply Kd.N_drew)); exact Kd.N_mono HO_9.out (fun _ hk => ⟨⟨hk.1, hk.2.2⟩, hk.2.1⟩)) hg (.inl rfl)); have n4_ := Aside0.mk (Kd.R_over' (v := (.slice (some ⟨go45, 0, none⟩) x7_5.length co45)) (rz HO_11.out) (Kd.R_typed HO_7.out) (by decide) hg); have n5_ := Aside0.mk (Kd.V_afterv (v := (.slice (some ⟨go45, 0, none⟩) x7_5.length co45)) (v1 := (.slice (some ⟨go45, 0, none⟩) x7_5.length co45)) (ok := (fun k_ => ((P0_ k_ ∨ P1_ k_) ∨ w.heap.size ≤ k_) ∧ some k_ ≠ (.slice Ao23 x9_2.length co23 : Value).ownBlock ∧ some k_ ≠ (.slice (some ad895) t890.length co47 : Value).ownBlock)) (by (with_reducible repeat (first | apply Kd.V_alloc | apply Kd.V_drewN | apply Kd.V_drew)); exact Kd.V_mono HL894_0.out (fun _ hk => ⟨⟨hk.1, ⟨hk.2.2.1, hk.2.2.2⟩⟩, hk.2.1⟩)) hg (.inl rfl)); have n6_ := Aside0.mk ((by rw [hw]; exact below_set (HB.out) GB45.out : Below w.heap.size w w51)); clear HO_0; clear HO_1; clear HO_7; clear HO_9; clear HO_11; clear HL894_0; clear HB; have HO_0 := n0_; have HO_1 := n1_; have HO_7 := n2_; have HO_9 := n3_; have HO_11 := n4_; have HL894_0 := n5_; have HB := n6_; clear n0_ n1_ n2_ n3_ n4_ n5_ n6_; clear hg hw hp_))
                                         go_roundg kj27
                                         case measure => have := HK1.out; have := HK2.out; have := HK3.out; have := HJ24.out; have := HK5.out; have := HJ27.out; omega
                                         case rel => exact ⟨(y900), (true), (wrap64 (x13_5 + 1)), sz_, sz_, H', ⟨by have := HK1.out; have := HK2.out; have := HK3.out; have := HJ24.out; have := HK5.out; have := HJ27.out; omega⟩, ⟨by (with_reducible repeat (first | apply Kd.V_alloc | apply Kd.V_drewN | apply Kd.V_drew)); exact Kd.V_mono HO_0.out (fun _ hk => ⟨hk.1.1, ⟨hk.2, ⟨hk.1.2.1, hk.1.2.2⟩⟩⟩)⟩, ⟨by (with_reducible repeat (first | apply Kd.V_alloc | apply Kd.V_drewN | apply Kd.V_drew)); exact Kd.V_mono HO_1.out (fun _ hk => ⟨hk.1.1, ⟨hk.2, ⟨hk.1.2.1, hk.1.2.2⟩⟩⟩)⟩, ⟨by (with_reducible repeat (first | apply Kd.R_alloc | apply Kd.R_drewN | apply Kd.R_drew)); exact HO_7.out⟩, ⟨by (with_reducible repeat (first | apply Kd.N_alloc | apply Kd.N_drewN | apply Kd.N_drew)); exact Kd.N_mono HO_9.out (fun _ hk => ⟨hk.1.1, ⟨hk.2, hk.1.2⟩⟩)⟩, ⟨by (with_reducible repeat (first | apply Kd.R_alloc | apply Kd.R_drewN | apply Kd.R_drew)); exact HO_11.out⟩, ⟨ bz⟩⟩
                                       · rw [if_neg c44] at H
                                         exact absurd H (by simp)
                                     · rw [if_neg c43] at H
                                       have c43b0 : decide (t898 < 0) = false := decide_eq_false c43
                                       clear c43
                                       have H' := Aside0.mk H
                                       clear H
                                       try go_wp2
                                       have n0_ := Aside0.mk (Kd.V_drew HO_0.out)
                                       have n1_ := Aside0.mk (Kd.V_drew HO_1.out)
                                       have n2_ := Aside0.mk (Kd.R_drew HO_7.out)
                                       have n3_ := Aside0.mk (Kd.N_drew HO_9.out)
                                       have n4_ := Aside0.mk (Kd.R_drew HO_11.out)
                                       have n5_ := Aside0.mk (below_drew1 HB.out)
                                       clear HO_0
                                       clear HO_1
                                       clear HO_7
                                       clear HO_9
                                       clear HO_11
                                       clear HB
                                       have HO_0 := n0_
                                       have HO_1 := n1_
                                       have HO_7 := n2_
                                       have HO_9 := n3_
                                       have HO_11 := n4_
                                       have HB := n5_
                                       clear n0_ n1_ n2_ n3_ n4_ n5_
                                       have p894 : 0 ≤ (x12_3 : Int) := of_decide_eq_true az
                                       have q894 : x12_3 < (l1.length : Int) := of_decide_eq_true az
                                       obtain ⟨ad894, A894_0, c894_0, e894, hx894_0, hl894_0, hi894_0⟩ := at_T68 (Kd.V_reads' HO_1.out).2.2 x12_3 p894 q894
                                       cases e894
                                       obtain ⟨ce894, hce894, hMe894, hcc894⟩ := Kd.V_get HO_1.out z68 x12_3 p894 (by first | exact q894 | exact of_decide_eq_true az | (have e_ := (Kd.V_reads' HO_1.out).1; omega))
                                       obtain ⟨ua894_0, uc894_0, rfl, ul894_0, ge894_0⟩ := k68_openF hMe894
                                       have hv894_0 := hcc894 0 _ rfl
                                       rw [Nat.add_zero, show (k68).sz = 1 from rfl, Nat.mul_one] at hv894_0
                                       replace hv894_0 := Option.some.inj (hv894_0.symm.trans hx894_0)
                                       injection hv894_0 with hva_ hvn_ hvc_
                                       rw [hva_] at ge894_0
                                       rw [hvc_] at ul894_0
                                       have HL894_0 := Aside0.mk (show Kd.V k130 130 _ w.heap.size _ _ ((rd_T68 l1 x12_3).f0) from Kd.V_mk ul894_0 ge894_0)
                                       clear hva_ hvn_ hvc_ ge894_0 ul894_0
                                       clear hcc894 hce894
                                       have HR894_0 := Aside0.mk hi894_0
                                       have HC894_0 := Aside0.mk hl894_0
                                       clear hi894_0 hl894_0
                                       replace p894 := eq_true p894
                                       replace q894 := eq_true q894
                                       obtain ⟨Ao53, co53, eo53⟩ := Kd.R_slice HO_11.out
                                       (first | subst eo53 | (injection eo53 with f1_ f2_ f3_; have f4_ := f1_.symm; have f5_ := f3_.symm; clear f1_ f2_ f3_; subst f4_; subst f5_))
                                       have p895 : 0 ≤ (x13_5 : Int) := of_decide_eq_true az
                                       have q895 : x13_5 < (t890.length : Int) := of_decide_eq_true az
                                       obtain ⟨ad895, e895, hx895_0⟩ := Kd.at_string (Kd.R_reads' HO_11.out).2.2 x13_5 p895 q895
                                       cases e895
                                       replace p895 := eq_true p895
                                       replace q895 := eq_true q895
                                       have p897 : 0 ≤ (x13_5 : Int) := of_decide_eq_true az
                                       have q897 : x13_5 < (t890.length : Int) := of_decide_eq_true az
                                       obtain ⟨ad897, e897, hx897_0⟩ := Kd.at_string (Kd.R_reads' HO_11.out).2.2 x13_5 p897 q897
                                       obtain rfl : ad895 = ad897 := (by injection e897)
                                       replace p897 := eq_true p897
                                       replace q897 := eq_true q897
                                       refine start_ (n := 19) (S := fun w' => w'.cell? (ad894.add (x12_3).toNat) = some (.slice A894_0 ((rd_T68 l1 x12_3).f0).length c894_0) ∧ w'.cell? (ad895.add (x13_5).toNat) = some (.string (rdOf ByteArray.empty t890 x13_5)) ∧ w'.cell? (ad895.add (x13_5).toNat) = some (.string (rdOf ByteArray.empty t890 x13_5))) (ds := []) #[false, false, false, false, false, false, false, false, false, false, false, false, false, false, false, false, false, false, false] (by kernel_rfl) rfl rfl ⟨hx894_0, hx895_0, hx897_0⟩ (fun hHeld => ?_); refine with_tabW spec_Gather.tab18 spec_Gather.bits18 (fun HT_ HW_ => ?_)
                                       generalize wc.drew = w52 at HO_0 HO_1 HO_7 HO_9 HO_11 HB HL894_0 HR894_0 hx894_0 hx895_0 hx897_0 hHeld ⊢
                                       refine pure_ (i := 0) (N := some 66) (v := ?_) (a' := ?_) #[true, false, false, false, false, false, false, false, false, false, false, false, false, false, false, false, false, false, false] rfl rfl (any_of HT_.out (by kernel_rfl)) (fun _ _ _ h => h) (Or.inl ⟨by rfl, ?_⟩) ?_ ?_
                                       rotate_left
                                       · intro w'
                                         go_simp
                                         with_reducible rfl
                                       rotate_left
                                       · simp only [Act.put, sx1, sx2, sx3, i64_w, i32_w]
                                         rfl
                                       refine pure_ (i := 1) (N := some 67) (v := ?_) (a' := ?_) #[true, true, false, false, false, false, false, false, false, false, false, false, false, false, false, false, false, false, false] rfl rfl (any_of HT_.out (by kernel_rfl)) (fun _ _ _ h => h) (Or.inl ⟨by rfl, ?_⟩) ?_ ?_
                                       rotate_left
                                       · intro w'
                                         go_simp
                                         with_reducible rfl
                                       rotate_left
                                       · simp only [Act.put, sx1, sx2, sx3, i64_w, i32_w]
                                         rfl
                                       refine pure_ (i := 2) (N := some 68) (v := ?_) (a' := ?_) #[true, true, true, false, false, false, false, false, false, false, false, false, false, false, false, false, false, false, false] rfl rfl (any_of HT_.out (by kernel_rfl)) (fun _ _ _ h => h) (Or.inl ⟨by rfl, ?_⟩) ?_ ?_
                                       rotate_left
                                       · intro w'
                                         go_simp
                                         with_reducible rfl
                                       rotate_left
                                       · simp only [Act.put, sx1, sx2, sx3, i64_w, i32_w]
                                         rfl
                                       refine pure_ (i := 4) (N := some 70) (v := ?_) (a' := ?_) #[true, true, true, false, true, false, false, false, false, false, false, false, false, false, false, false, false, false, false] rfl rfl (any_of HT_.out (by kernel_rfl)) (fun _ _ _ h => h) (Or.inl ⟨by rfl, ?_⟩) ?_ ?_
                                       rotate_left
                                       · intro w'
                                         go_simp
                                         with_reducible rfl
                                       rotate_left
                                       · simp only [Act.put, sx1, sx2, sx3, i64_w, i32_w]
                                         rfl
                                       refine pure_ (i := 5) (N := some 71) (v := ?_) (a' := ?_) #[true, true, true, false, true, true, false, false, false, false, false, false, false, false, false, false, false, false, false] rfl rfl (any_of HT_.out (by kernel_rfl)) (fun _ _ _ h => h) (Or.inl ⟨by rfl, ?_⟩) ?_ ?_
                                       rotate_left
                                       · intro w'
                                         go_simp
                                         with_reducible rfl
                                       rotate_left
                                       · simp only [Act.put, sx1, sx2, sx3, i64_w, i32_w]
                                         rfl
                                       refine pure_ (i := 6) (N := some 72) (v := ?_) (a' := ?_) #[true, true, true, false, true, true, true, false, false, false, false, false, false, false, false, false, false, false, false] rfl rfl (any_of HT_.out (by kernel_rfl)) (fun _ _ _ h => h) (Or.inl ⟨by rfl, ?_⟩) ?_ ?_
                                       rotate_left
                                       · intro w'
                                         go_simp
                                         with_reducible rfl
                                       rotate_left
                                       · simp only [Act.put, sx1, sx2, sx3, i64_w, i32_w]
                                         rfl
                                       refine take_ (i := 3) (N := some 69) (v := ?_) (a' := ?_) #[true, true, true, true, true, true, true, false, false, false, false, false, false, false, false, false, false, false, false] rfl rfl (take_ofW HT_.out HW_.out (by kernel_rfl)) (fun _ _ _ h => h) (Or.inl ⟨by rfl, ?_⟩) hHeld ?_ ?_
                                       rotate_left
                                       · rintro w' ⟨s0, s1, s2⟩
                                         go_simp
                                         with_reducible rfl
                                       rotate_left
                                       · simp only [Act.put, sx1, sx2, sx3, i64_w, i32_w]
                                         rfl
                                       refine take_ (i := 7) (N := some 73) (v := ?_) (a' := ?_) #[true, true, true, true, true, true, true, true, false, false, false, false, false, false, false, false, false, false, false] rfl rfl (take_ofW HT_.out HW_.out (by kernel_rfl)) (fun _ _ _ h => h) (Or.inl ⟨by rfl, ?_⟩) hHeld ?_ ?_
                                       rotate_left
                                       · rintro w' ⟨s0, s1, s2⟩
                                         go_simp
                                         with_reducible rfl
                                       rotate_left
                                       · simp only [Act.put, sx1, sx2, sx3, i64_w, i32_w]
                                         rfl
                                       refine one_ (i := 8) (N := some 74) #[true, true, true, true, true, true, true, true, true, false, false, false, false, false, false, false, false, false, false] rfl rfl (one_of HT_.out (by kernel_rfl)) (by decide) (fun K hK => ?_)
                                       refine goes_ Try.func91 (by kernel_rfl) rfl #[.agg #[.slice A894_0 ((rd_T68 l1 x12_3).f0).length c894_0], .string (rdOf ByteArray.empty t890 x13_5)] (by rfl) rfl rfl lz ?_
                                       with_reducible refine (spec_l20Defines.calls kj27 (fun k_ => (((P0_ k_ ∨ P1_ k_) ∨ w.heap.size ≤ k_) ∧ (some k_ ≠ (v877 : Value).ownBlock ∧ (some k_ ≠ (.slice Ao23 x9_2.length co23 : Value).ownBlock ∧ some k_ ≠ (.slice (some ad895) t890.length co53 : Value).ownBlock)))) _ _ ((rd_T68 l1 x12_3).f0) (rdOf ByteArray.empty t890 x13_5) true _ ?side1 A40.out).mono ?_
                                       (case side1 => exact HL894_0.out)
                                       rintro e w54 ⟨rfl, hb⟩
                                       have HS0_ := (hb.cell (World.block_lt_of_cell? _ _ (hHeld.1))).trans (hHeld.1)
                                       have HS1_ := (hb.cell (World.block_lt_of_cell? _ _ (hHeld.2.1))).trans (hHeld.2.1)
                                       have HS2_ := (hb.cell (World.block_lt_of_cell? _ _ (hHeld.2.2))).trans (hHeld.2.2)
                                       refine ⟨_, rfl, ?_⟩
                                       have n0_ := Aside0.mk (Kd.V_below (by (with_reducible repeat (first | apply Kd.V_alloc | apply Kd.V_drewN | apply Kd.V_drew)); exact HO_0.out) hb)
                                       have n1_ := Aside0.mk (Kd.V_below (by (with_reducible repeat (first | apply Kd.V_alloc | apply Kd.V_drewN | apply Kd.V_drew)); exact HO_1.out) hb)
                                       have n2_ := Aside0.mk (Kd.R_below (rz HO_7.out) hb)
                                       have n3_ := Aside0.mk (Kd.N_below (by (with_reducible repeat (first | apply Kd.N_alloc | apply Kd.N_drewN | apply Kd.N_drew)); exact HO_9.out) hb)
                                       have n4_ := Aside0.mk (Kd.R_below (rz HO_11.out) hb)
                                       have n5_ := Aside0.mk (Kd.V_below (by (with_reducible repeat (first | apply Kd.V_alloc | apply Kd.V_drewN | apply Kd.V_drew)); exact HL894_0.out) hb)
                                       have n6_ := Aside0.mk (Kd.C_below (by repeat (first | (with_reducible exact HR894_0.out) | (with_reducible refine Kd.C_alloc ?_ _) | (with_reducible refine Kd.C_drewN ?_ _) | (with_reducible refine Kd.C_drew ?_) | exact HR894_0.out)) hb)
                                       have n7_ := Aside0.mk (below_step bz hb)
                                       clear HO_0
                                       clear HO_1
                                       clear HO_7
                                       clear HO_9
                                       clear HO_11
                                       clear HL894_0
                                       clear HR894_0
                                       clear HB
                                       have HO_0 := n0_
                                       have HO_1 := n1_
                                       have HO_7 := n2_
                                       have HO_9 := n3_
                                       have HO_11 := n4_
                                       have HL894_0 := n5_
                                       have HR894_0 := n6_
                                       have HB := n7_
                                       clear n0_ n1_ n2_ n3_ n4_ n5_ n6_ n7_
                                       (try clear hb)
                                       (try clear hb2)
                                       (try clear hk)
                                       (try clear hi)
                                       refine hK.out _ _ ⟨HS0_, HS1_, HS2_⟩ (fun hHeld => ?_)
                                       clear hK K
                                       refine norm_ (a' := ?_) ?_ ?_
                                       rotate_left
                                       · show Act.put _ (some 74) _ = _
                                         simp only [Act.put, sx1, sx2, sx3, i64_w, i32_w]
                                         rfl
                                       refine pure_ (i := 9) (N := some 75) (v := ?_) (a' := ?_) #[true, true, true, true, true, true, true, true, true, true, false, false, false, false, false, false, false, false, false] rfl rfl (any_of HT_.out (by kernel_rfl)) (fun _ _ _ h => h) (Or.inl ⟨by rfl, ?_⟩) ?_ ?_
                                       rotate_left
                                       · intro w'
                                         go_simp
                                         with_reducible rfl
                                       rotate_left
                                       · simp only [Act.put, sx1, sx2, sx3, i64_w, i32_w]
                                         rfl
                                       refine pure_ (i := 10) (N := some 76) (v := ?_) (a' := ?_) #[true, true, true, true, true, true, true, true, true, true, true, false, false, false, false, false, false, false, false] rfl rfl (any_of HT_.out (by kernel_rfl)) (fun _ _ _ h => h) (Or.inl ⟨by rfl, ?_⟩) ?_ ?_
                                       rotate_left
                                       · intro w'
                                         go_simp
                                         with_reducible rfl
                                       rotate_left
                                       · simp only [Act.put, sx1, sx2, sx3, i64_w, i32_w]
                                         rfl
                                       refine pure_ (i := 11) (N := some 77) (v := ?_) (a' := ?_) #[true, true, true, true, true, true, true, true, true, true, true, true, false, false, false, false, false, false, false] rfl rfl (any_of HT_.out (by kernel_rfl)) (fun _ _ _ h => h) (Or.inl ⟨by rfl, ?_⟩) ?_ ?_
                                       rotate_left
                                       · intro w'
                                         go_simp
                                         with_reducible rfl
                                       rotate_left
                                       · simp only [Act.put, sx1, sx2, sx3, i64_w, i32_w]
                                         rfl
                                       refine pure_ (i := 12) (N := some 78) (v := ?_) (a' := ?_) #[true, true, true, true, true, true, true, true, true, true, true, true, true, false, false, false, false, false, false] rfl rfl (any_of HT_.out (by kernel_rfl)) (fun _ _ _ h => h) (Or.inl ⟨by rfl, ?_⟩) ?_ ?_
                                       rotate_left
                                       · intro w'
                                         go_simp
                                         with_reducible rfl
                                       rotate_left
                                       · simp only [Act.put, sx1, sx2, sx3, i64_w, i32_w]
                                         rfl
                                       refine pure_ (i := 13) (N := some 79) (v := ?_) (a' := ?_) #[true, true, true, true, true, true, true, true, true, true, true, true, true, true, false, false, false, false, false] rfl rfl (any_of HT_.out (by kernel_rfl)) (fun _ _ _ h => h) (Or.inl ⟨by rfl, ?_⟩) ?_ ?_
                                       rotate_left
                                       · intro w'
                                         go_simp
                                         with_reducible rfl
                                       rotate_left
                                       · simp only [Act.put, sx1, sx2, sx3, i64_w, i32_w]
                                         rfl
                                       refine take_ (i := 14) (N := some 80) (v := ?_) (a' := ?_) #[true, true, true, true, true, true, true, true, true, true, true, true, true, true, true, false, false, false, false] rfl rfl (take_ofW HT_.out HW_.out (by kernel_rfl)) (fun _ _ _ h => h) (Or.inl ⟨by rfl, ?_⟩) hHeld ?_ ?_
                                       rotate_left
                                       · rintro w' ⟨s0, s1, s2⟩
                                         go_simp
                                         with_reducible rfl
                                       rotate_left
                                       · simp only [Act.put, sx1, sx2, sx3, i64_w, i32_w]
                                         rfl
                                       refine one_ (i := 15) (N := some 81) #[true, true, true, true, true, true, true, true, true, true, true, true, true, true, true, true, false, false, false] rfl rfl (one_of HT_.out (by kernel_rfl)) (by decide) (fun K hK => ?_)
                                       refine goes_ Try.func85 (by kernel_rfl) rfl #[.slice Ao23 x9_2.length co23, .int .i64 (-1), .string (rdOf ByteArray.empty t890 x13_5)] (by rfl) rfl rfl lz ?_
                                       with_reducible refine (spec_l20Of.calls kj27 (fun k_ => (((P0_ k_ ∨ P1_ k_) ∨ w.heap.size ≤ k_) ∧ (some k_ ≠ (v877 : Value).ownBlock ∧ some k_ ≠ (.slice (some ad895) t890.length co53 : Value).ownBlock))) _ _ x9_2 (-1) (rdOf ByteArray.empty t890 x13_5) t898 t899 _ ?side1 A42.out).mono ?_
                                       (case side1 => exact Kd.N_V (HO_9.out))
                                       rintro e w55 ⟨rfl, hb⟩
                                       have HS0_ := (hb.cell (World.block_lt_of_cell? _ _ (hHeld.1))).trans (hHeld.1)
                                       have HS1_ := (hb.cell (World.block_lt_of_cell? _ _ (hHeld.2.1))).trans (hHeld.2.1)
                                       have HS2_ := (hb.cell (World.block_lt_of_cell? _ _ (hHeld.2.2))).trans (hHeld.2.2)
                                       refine ⟨_, rfl, ?_⟩
                                       have n0_ := Aside0.mk (Kd.V_below (by (with_reducible repeat (first | apply Kd.V_alloc | apply Kd.V_drewN | apply Kd.V_drew)); exact HO_0.out) hb)
                                       have n1_ := Aside0.mk (Kd.V_below (by (with_reducible repeat (first | apply Kd.V_alloc | apply Kd.V_drewN | apply Kd.V_drew)); exact HO_1.out) hb)
                                       have n2_ := Aside0.mk (Kd.R_below (rz HO_7.out) hb)
                                       have n3_ := Aside0.mk (Kd.N_below (by (with_reducible repeat (first | apply Kd.N_alloc | apply Kd.N_drewN | apply Kd.N_drew)); exact HO_9.out) hb)
                                       have n4_ := Aside0.mk (Kd.R_below (rz HO_11.out) hb)
                                       have n5_ := Aside0.mk (Kd.V_below (by (with_reducible repeat (first | apply Kd.V_alloc | apply Kd.V_drewN | apply Kd.V_drew)); exact HL894_0.out) hb)
                                       have n6_ := Aside0.mk (Kd.C_below (by repeat (first | (with_reducible exact HR894_0.out) | (with_reducible refine Kd.C_alloc ?_ _) | (with_reducible refine Kd.C_drewN ?_ _) | (with_reducible refine Kd.C_drew ?_) | exact HR894_0.out)) hb)
                                       have n7_ := Aside0.mk (below_step bz hb)
                                       clear HO_0
                                       clear HO_1
                                       clear HO_7
                                       clear HO_9
                                       clear HO_11
                                       clear HL894_0
                                       clear HR894_0
                                       clear HB
                                       have HO_0 := n0_
                                       have HO_1 := n1_
                                       have HO_7 := n2_
                                       have HO_9 := n3_
                                       have HO_11 := n4_
                                       have HL894_0 := n5_
                                       have HR894_0 := n6_
                                       have HB := n7_
                                       clear n0_ n1_ n2_ n3_ n4_ n5_ n6_ n7_
                                       (try clear hb)
                                       (try clear hb2)
                                       (try clear hk)
                                       (try clear hi)
                                       refine hK.out _ _ ⟨HS0_, HS1_, HS2_⟩ (fun hHeld => ?_)
                                       clear hK K
                                       refine norm_ (a' := ?_) ?_ ?_
                                       rotate_left
                                       · show Act.put _ (some 81) _ = _
                                         simp only [Act.put, sx1, sx2, sx3, i64_w, i32_w]
                                         rfl
                                       refine pure_ (i := 16) (N := some 82) (v := ?_) (a' := ?_) #[true, true, true, true, true, true, true, true, true, true, true, true, true, true, true, true, true, false, false] rfl rfl (any_of HT_.out (by kernel_rfl)) (fun _ _ _ h => h) (Or.inl ⟨by rfl, ?_⟩) ?_ ?_
                                       rotate_left
                                       · intro w'
                                         go_simp
                                         with_reducible rfl
                                       rotate_left
                                       · simp only [Act.put, sx1, sx2, sx3, i64_w, i32_w]
                                         rfl
                                       refine pure_ (i := 17) (N := some 83) (v := ?_) (a' := ?_) #[true, true, true, true, true, true, true, true, true, true, true, true, true, true, true, true, true, true, false] rfl rfl (any_of HT_.out (by kernel_rfl)) (fun _ _ _ h => h) (Or.inl ⟨by rfl, ?_⟩) ?_ ?_
                                       rotate_left
                                       · intro w'
                                         go_simp
                                         with_reducible rfl
                                       rotate_left
                                       · simp only [Act.put, sx1, sx2, sx3, i64_w, i32_w]
                                         rfl
                                       refine pure_ (i := 18) (N := some 84) (v := ?_) (a' := ?_) #[true, true, true, true, true, true, true, true, true, true, true, true, true, true, true, true, true, true, true] rfl rfl (any_of HT_.out (by kernel_rfl)) (fun _ _ _ h => h) (Or.inl ⟨by rfl, ?_⟩) ?_ ?_
                                       rotate_left
                                       · intro w'
                                         go_simp
                                         with_reducible rfl
                                       rotate_left
                                       · simp only [Act.put, sx1, sx2, sx3, i64_w, i32_w]
                                         rfl
                                       refine done_ (done_of HT_.out (by kernel_rfl)) ?_
                                       try go_wp2
                                       go_roundg kj27
                                       case measure => have := HK1.out; have := HK2.out; have := HK3.out; have := HJ24.out; have := HK5.out; have := HJ27.out; omega
                                       case rel => exact ⟨(x7_5), (x8_5), (wrap64 (x13_5 + 1)), sz_, sz_, H', ⟨by have := HK1.out; have := HK2.out; have := HK3.out; have := HJ24.out; have := HK5.out; have := HJ27.out; omega⟩, ⟨by (with_reducible repeat (first | apply Kd.V_alloc | apply Kd.V_drewN | apply Kd.V_drew)); exact HO_0.out⟩, ⟨by (with_reducible repeat (first | apply Kd.V_alloc | apply Kd.V_drewN | apply Kd.V_drew)); exact HO_1.out⟩, ⟨by (with_reducible repeat (first | apply Kd.R_alloc | apply Kd.R_drewN | apply Kd.R_drew)); exact HO_7.out⟩, ⟨by (with_reducible repeat (first | apply Kd.N_alloc | apply Kd.N_drewN | apply Kd.N_drew)); exact HO_9.out⟩, ⟨by (with_reducible repeat (first | apply Kd.R_alloc | apply Kd.R_drewN | apply Kd.R_drew)); exact HO_11.out⟩, ⟨ bz⟩⟩
                                   · replace c41 := Bool.eq_false_iff.mpr c41
                                     subst c41
                                     have H1 : (spec_Gather.l3 kj27 l0 l1 a2 x7_5 x8_5 x9_2 t890 x12_3 (wrap64 (x13_5 + 1))) = some r := by rw [if_neg (show ¬ (false = true) by decide)] at H; exact H
                                     clear H
                                     have H := H1
                                     clear H1
                                     have H' := Aside0.mk H
                                     clear H
                                     try go_wp2
                                     have n0_ := Aside0.mk (Kd.V_drew HO_0.out)
                                     have n1_ := Aside0.mk (Kd.V_drew HO_1.out)
                                     have n2_ := Aside0.mk (Kd.R_drew HO_7.out)
                                     have n3_ := Aside0.mk (Kd.N_drew HO_9.out)
                                     have n4_ := Aside0.mk (Kd.R_drew HO_11.out)
                                     have n5_ := Aside0.mk (below_drew1 HB.out)
                                     clear HO_0
                                     clear HO_1
                                     clear HO_7
                                     clear HO_9
                                     clear HO_11
                                     clear HB
                                     have HO_0 := n0_
                                     have HO_1 := n1_
                                     have HO_7 := n2_
                                     have HO_9 := n3_
                                     have HO_11 := n4_
                                     have HB := n5_
                                     clear n0_ n1_ n2_ n3_ n4_ n5_
                                     have p894 : 0 ≤ (x12_3 : Int) := of_decide_eq_true az
                                     have q894 : x12_3 < (l1.length : Int) := of_decide_eq_true az
                                     obtain ⟨ad894, A894_0, c894_0, e894, hx894_0, hl894_0, hi894_0⟩ := at_T68 (Kd.V_reads' HO_1.out).2.2 x12_3 p894 q894
                                     cases e894
                                     obtain ⟨ce894, hce894, hMe894, hcc894⟩ := Kd.V_get HO_1.out z68 x12_3 p894 (by first | exact q894 | exact of_decide_eq_true az | (have e_ := (Kd.V_reads' HO_1.out).1; omega))
                                     obtain ⟨ua894_0, uc894_0, rfl, ul894_0, ge894_0⟩ := k68_openF hMe894
                                     have hv894_0 := hcc894 0 _ rfl
                                     rw [Nat.add_zero, show (k68).sz = 1 from rfl, Nat.mul_one] at hv894_0
                                     replace hv894_0 := Option.some.inj (hv894_0.symm.trans hx894_0)
                                     injection hv894_0 with hva_ hvn_ hvc_
                                     rw [hva_] at ge894_0
                                     rw [hvc_] at ul894_0
                                     have HL894_0 := Aside0.mk (show Kd.V k130 130 _ w.heap.size _ _ ((rd_T68 l1 x12_3).f0) from Kd.V_mk ul894_0 ge894_0)
                                     clear hva_ hvn_ hvc_ ge894_0 ul894_0
                                     clear hcc894 hce894
                                     have HR894_0 := Aside0.mk hi894_0
                                     have HC894_0 := Aside0.mk hl894_0
                                     clear hi894_0 hl894_0
                                     replace p894 := eq_true p894
                                     replace q894 := eq_true q894
                                     obtain ⟨Ao57, co57, eo57⟩ := Kd.R_slice HO_11.out
                                     (first | subst eo57 | (injection eo57 with f1_ f2_ f3_; have f4_ := f1_.symm; have f5_ := f3_.symm; clear f1_ f2_ f3_; subst f4_; subst f5_))
                                     have p895 : 0 ≤ (x13_5 : Int) := of_decide_eq_true az
                                     have q895 : x13_5 < (t890.length : Int) := of_decide_eq_true az
                                     obtain ⟨ad895, e895, hx895_0⟩ := Kd.at_string (Kd.R_reads' HO_11.out).2.2 x13_5 p895 q895
                                     cases e895
                                     replace p895 := eq_true p895
                                     replace q895 := eq_true q895
                                     refine start_ (n := 19) (S := fun w' => w'.cell? (ad894.add (x12_3).toNat) = some (.slice A894_0 ((rd_T68 l1 x12_3).f0).length c894_0) ∧ w'.cell? (ad895.add (x13_5).toNat) = some (.string (rdOf ByteArray.empty t890 x13_5))) (ds := []) #[false, false, false, false, false, false, false, false, false, false, false, false, false, false, false, false, false, false, false] (by kernel_rfl) rfl rfl ⟨hx894_0, hx895_0⟩ (fun hHeld => ?_); refine with_tabW spec_Gather.tab18 spec_Gather.bits18 (fun HT_ HW_ => ?_)
                                     generalize wc.drew = w56 at HO_0 HO_1 HO_7 HO_9 HO_11 HB HL894_0 HR894_0 hx894_0 hx895_0 hHeld ⊢
                                     refine pure_ (i := 0) (N := some 66) (v := ?_) (a' := ?_) #[true, false, false, false, false, false, false, false, false, false, false, false, false, false, false, false, false, false, false] rfl rfl (any_of HT_.out (by kernel_rfl)) (fun _ _ _ h => h) (Or.inl ⟨by rfl, ?_⟩) ?_ ?_
                                     rotate_left
                                     · intro w'
                                       go_simp
                                       with_reducible rfl
                                     rotate_left
                                     · simp only [Act.put, sx1, sx2, sx3, i64_w, i32_w]
                                       rfl
                                     refine pure_ (i := 1) (N := some 67) (v := ?_) (a' := ?_) #[true, true, false, false, false, false, false, false, false, false, false, false, false, false, false, false, false, false, false] rfl rfl (any_of HT_.out (by kernel_rfl)) (fun _ _ _ h => h) (Or.inl ⟨by rfl, ?_⟩) ?_ ?_
                                     rotate_left
                                     · intro w'
                                       go_simp
                                       with_reducible rfl
                                     rotate_left
                                     · simp only [Act.put, sx1, sx2, sx3, i64_w, i32_w]
                                       rfl
                                     refine pure_ (i := 2) (N := some 68) (v := ?_) (a' := ?_) #[true, true, true, false, false, false, false, false, false, false, false, false, false, false, false, false, false, false, false] rfl rfl (any_of HT_.out (by kernel_rfl)) (fun _ _ _ h => h) (Or.inl ⟨by rfl, ?_⟩) ?_ ?_
                                     rotate_left
                                     · intro w'
                                       go_simp
                                       with_reducible rfl
                                     rotate_left
                                     · simp only [Act.put, sx1, sx2, sx3, i64_w, i32_w]
                                       rfl
                                     refine pure_ (i := 4) (N := some 70) (v := ?_) (a' := ?_) #[true, true, true, false, true, false, false, false, false, false, false, false, false, false, false, false, false, false, false] rfl rfl (any_of HT_.out (by kernel_rfl)) (fun _ _ _ h => h) (Or.inl ⟨by rfl, ?_⟩) ?_ ?_
                                     rotate_left
                                     · intro w'
                                       go_simp
                                       with_reducible rfl
                                     rotate_left
                                     · simp only [Act.put, sx1, sx2, sx3, i64_w, i32_w]
                                       rfl
                                     refine pure_ (i := 5) (N := some 71) (v := ?_) (a' := ?_) #[true, true, true, false, true, true, false, false, false, false, false, false, false, false, false, false, false, false, false] rfl rfl (any_of HT_.out (by kernel_rfl)) (fun _ _ _ h => h) (Or.inl ⟨by rfl, ?_⟩) ?_ ?_
                                     rotate_left
                                     · intro w'
                                       go_simp
                                       with_reducible rfl
                                     rotate_left
                                     · simp only [Act.put, sx1, sx2, sx3, i64_w, i32_w]
                                       rfl
                                     refine pure_ (i := 6) (N := some 72) (v := ?_) (a' := ?_) #[true, true, true, false, true, true, true, false, false, false, false, false, false, false, false, false, false, false, false] rfl rfl (any_of HT_.out (by kernel_rfl)) (fun _ _ _ h => h) (Or.inl ⟨by rfl, ?_⟩) ?_ ?_
                                     rotate_left
                                     · intro w'
                                       go_simp
                                       with_reducible rfl
                                     rotate_left
                                     · simp only [Act.put, sx1, sx2, sx3, i64_w, i32_w]
                                       rfl
                                     refine take_ (i := 3) (N := some 69) (v := ?_) (a' := ?_) #[true, true, true, true, true, true, true, false, false, false, false, false, false, false, false, false, false, false, false] rfl rfl (take_ofW HT_.out HW_.out (by kernel_rfl)) (fun _ _ _ h => h) (Or.inl ⟨by rfl, ?_⟩) hHeld ?_ ?_
                                     rotate_left
                                     · rintro w' ⟨s0, s1⟩
                                       go_simp
                                       with_reducible rfl
                                     rotate_left
                                     · simp only [Act.put, sx1, sx2, sx3, i64_w, i32_w]
                                       rfl
                                     refine take_ (i := 7) (N := some 73) (v := ?_) (a' := ?_) #[true, true, true, true, true, true, true, true, false, false, false, false, false, false, false, false, false, false, false] rfl rfl (take_ofW HT_.out HW_.out (by kernel_rfl)) (fun _ _ _ h => h) (Or.inl ⟨by rfl, ?_⟩) hHeld ?_ ?_
                                     rotate_left
                                     · rintro w' ⟨s0, s1⟩
                                       go_simp
                                       with_reducible rfl
                                     rotate_left
                                     · simp only [Act.put, sx1, sx2, sx3, i64_w, i32_w]
                                       rfl
                                     refine one_ (i := 8) (N := some 74) #[true, true, true, true, true, true, true, true, true, false, false, false, false, false, false, false, false, false, false] rfl rfl (one_of HT_.out (by kernel_rfl)) (by decide) (fun K hK => ?_)
                                     refine goes_ Try.func91 (by kernel_rfl) rfl #[.agg #[.slice A894_0 ((rd_T68 l1 x12_3).f0).length c894_0], .string (rdOf ByteArray.empty t890 x13_5)] (by rfl) rfl rfl lz ?_
                                     with_reducible refine (spec_l20Defines.calls kj27 (fun k_ => (((P0_ k_ ∨ P1_ k_) ∨ w.heap.size ≤ k_) ∧ (some k_ ≠ (v877 : Value).ownBlock ∧ (some k_ ≠ (.slice Ao23 x9_2.length co23 : Value).ownBlock ∧ some k_ ≠ (.slice (some ad895) t890.length co57 : Value).ownBlock)))) _ _ ((rd_T68 l1 x12_3).f0) (rdOf ByteArray.empty t890 x13_5) false _ ?side1 A40.out).mono ?_
                                     (case side1 => exact HL894_0.out)
                                     rintro e w58 ⟨rfl, hb⟩
                                     have HS0_ := (hb.cell (World.block_lt_of_cell? _ _ (hHeld.1))).trans (hHeld.1)
                                     have HS1_ := (hb.cell (World.block_lt_of_cell? _ _ (hHeld.2))).trans (hHeld.2)
                                     refine ⟨_, rfl, ?_⟩
                                     have n0_ := Aside0.mk (Kd.V_below (by (with_reducible repeat (first | apply Kd.V_alloc | apply Kd.V_drewN | apply Kd.V_drew)); exact HO_0.out) hb)
                                     have n1_ := Aside0.mk (Kd.V_below (by (with_reducible repeat (first | apply Kd.V_alloc | apply Kd.V_drewN | apply Kd.V_drew)); exact HO_1.out) hb)
                                     have n2_ := Aside0.mk (Kd.R_below (rz HO_7.out) hb)
                                     have n3_ := Aside0.mk (Kd.N_below (by (with_reducible repeat (first | apply Kd.N_alloc | apply Kd.N_drewN | apply Kd.N_drew)); exact HO_9.out) hb)
                                     have n4_ := Aside0.mk (Kd.R_below (rz HO_11.out) hb)
                                     have n5_ := Aside0.mk (Kd.V_below (by (with_reducible repeat (first | apply Kd.V_alloc | apply Kd.V_drewN | apply Kd.V_drew)); exact HL894_0.out) hb)
                                     have n6_ := Aside0.mk (Kd.C_below (by repeat (first | (with_reducible exact HR894_0.out) | (with_reducible refine Kd.C_alloc ?_ _) | (with_reducible refine Kd.C_drewN ?_ _) | (with_reducible refine Kd.C_drew ?_) | exact HR894_0.out)) hb)
                                     have n7_ := Aside0.mk (below_step bz hb)
                                     clear HO_0
                                     clear HO_1
                                     clear HO_7
                                     clear HO_9
                                     clear HO_11
                                     clear HL894_0
                                     clear HR894_0
                                     clear HB
                                     have HO_0 := n0_
                                     have HO_1 := n1_
                                     have HO_7 := n2_
                                     have HO_9 := n3_
                                     have HO_11 := n4_
                                     have HL894_0 := n5_
                                     have HR894_0 := n6_
                                     have HB := n7_
                                     clear n0_ n1_ n2_ n3_ n4_ n5_ n6_ n7_
                                     (try clear hb)
                                     (try clear hb2)
                                     (try clear hk)
                                     (try clear hi)
                                     refine hK.out _ _ ⟨HS0_, HS1_⟩ (fun hHeld => ?_)
                                     clear hK K
                                     refine norm_ (a' := ?_) ?_ ?_
                                     rotate_left
                                     · show Act.put _ (some 74) _ = _
                                       simp only [Act.put, sx1, sx2, sx3, i64_w, i32_w]
                                       rfl
                                     refine pure_ (i := 9) (N := some 75) (v := ?_) (a' := ?_) #[true, true, true, true, true, true, true, true, true, true, false, false, false, false, false, false, false, false, false] rfl rfl (any_of HT_.out (by kernel_rfl)) (fun _ _ _ h => h) (Or.inl ⟨by rfl, ?_⟩) ?_ ?_
                                     rotate_left
                                     · intro w'
                                       go_simp
                                       with_reducible rfl
                                     rotate_left
                                     · simp only [Act.put, sx1, sx2, sx3, i64_w, i32_w]
                                       rfl
                                     refine pure_ (i := 10) (N := some 76) (v := undef) (a' := ?_) #[true, true, true, true, true, true, true, true, true, true, true, false, false, false, false, false, false, false, false] rfl rfl (any_of HT_.out (by kernel_rfl)) (fun _ _ _ h => h) (Or.inr ⟨by rfl, rfl⟩) ?_ ?_
                                     rotate_left
                                     · simp only [Act.put, sx1, sx2, sx3, i64_w, i32_w]
                                       rfl
                                     refine pure_ (i := 11) (N := some 77) (v := undef) (a' := ?_) #[true, true, true, true, true, true, true, true, true, true, true, true, false, false, false, false, false, false, false] rfl rfl (any_of HT_.out (by kernel_rfl)) (fun _ _ _ h => h) (Or.inr ⟨by rfl, rfl⟩) ?_ ?_
                                     rotate_left
                                     · simp only [Act.put, sx1, sx2, sx3, i64_w, i32_w]
                                       rfl
                                     refine pure_ (i := 12) (N := some 78) (v := undef) (a' := ?_) #[true, true, true, true, true, true, true, true, true, true, true, true, true, false, false, false, false, false, false] rfl rfl (any_of HT_.out (by kernel_rfl)) (fun _ _ _ h => h) (Or.inr ⟨by rfl, rfl⟩) ?_ ?_
                                     rotate_left
                                     · simp only [Act.put, sx1, sx2, sx3, i64_w, i32_w]
                                       rfl
                                     refine pure_ (i := 13) (N := some 79) (v := undef) (a' := ?_) #[true, true, true, true, true, true, true, true, true, true, true, true, true, true, false, false, false, false, false] rfl rfl (any_of HT_.out (by kernel_rfl)) (fun _ _ _ h => h) (Or.inr ⟨by rfl, rfl⟩) ?_ ?_
                                     rotate_left
                                     · simp only [Act.put, sx1, sx2, sx3, i64_w, i32_w]
                                       rfl
                                     refine pure_ (i := 14) (N := some 80) (v := undef) (a' := ?_) #[true, true, true, true, true, true, true, true, true, true, true, true, true, true, true, false, false, false, false] rfl rfl (any_of HT_.out (by kernel_rfl)) (fun _ _ _ h => h) (Or.inr ⟨by rfl, rfl⟩) ?_ ?_
                                     rotate_left
                                     · simp only [Act.put, sx1, sx2, sx3, i64_w, i32_w]
                                       rfl
                                     refine pure_ (i := 15) (N := some 81) (v := undef) (a' := ?_) #[true, true, true, true, true, true, true, true, true, true, true, true, true, true, true, true, false, false, false] rfl rfl (any_of HT_.out (by kernel_rfl)) (fun _ _ _ h => h) (Or.inr ⟨by rfl, rfl⟩) ?_ ?_
                                     rotate_left
                                     · simp only [Act.put, sx1, sx2, sx3, i64_w, i32_w]
                                       rfl
                                     refine pure_ (i := 16) (N := some 82) (v := undef) (a' := ?_) #[true, true, true, true, true, true, true, true, true, true, true, true, true, true, true, true, true, false, false] rfl rfl (any_of HT_.out (by kernel_rfl)) (fun _ _ _ h => h) (Or.inr ⟨by rfl, rfl⟩) ?_ ?_
                                     rotate_left
                                     · simp only [Act.put, sx1, sx2, sx3, i64_w, i32_w]
                                       rfl
                                     refine pure_ (i := 17) (N := some 83) (v := undef) (a' := ?_) #[true, true, true, true, true, true, true, true, true, true, true, true, true, true, true, true, true, true, false] rfl rfl (any_of HT_.out (by kernel_rfl)) (fun _ _ _ h => h) (Or.inr ⟨by rfl, rfl⟩) ?_ ?_
                                     rotate_left
                                     · simp only [Act.put, sx1, sx2, sx3, i64_w, i32_w]
                                       rfl
                                     refine pure_ (i := 18) (N := some 84) (v := ?_) (a' := ?_) #[true, true, true, true, true, true, true, true, true, true, true, true, true, true, true, true, true, true, true] rfl rfl (any_of HT_.out (by kernel_rfl)) (fun _ _ _ h => h) (Or.inl ⟨by rfl, ?_⟩) ?_ ?_
                                     rotate_left
                                     · intro w'
                                       go_simp
                                       with_reducible rfl
                                     rotate_left
                                     · simp only [Act.put, sx1, sx2, sx3, i64_w, i32_w]
                                       rfl
                                     refine done_ (done_of HT_.out (by kernel_rfl)) ?_
                                     try go_wp2
                                     go_roundg kj27
                                     case measure => have := HK1.out; have := HK2.out; have := HK3.out; have := HJ24.out; have := HK5.out; have := HJ27.out; omega
                                     case rel => exact ⟨(x7_5), (x8_5), (wrap64 (x13_5 + 1)), sz_, sz_, H', ⟨by have := HK1.out; have := HK2.out; have := HK3.out; have := HJ24.out; have := HK5.out; have := HJ27.out; omega⟩, ⟨by (with_reducible repeat (first | apply Kd.V_alloc | apply Kd.V_drewN | apply Kd.V_drew)); exact HO_0.out⟩, ⟨by (with_reducible repeat (first | apply Kd.V_alloc | apply Kd.V_drewN | apply Kd.V_drew)); exact HO_1.out⟩, ⟨by (with_reducible repeat (first | apply Kd.R_alloc | apply Kd.R_drewN | apply Kd.R_drew)); exact HO_7.out⟩, ⟨by (with_reducible repeat (first | apply Kd.N_alloc | apply Kd.N_drewN | apply Kd.N_drew)); exact HO_9.out⟩, ⟨by (with_reducible repeat (first | apply Kd.R_alloc | apply Kd.R_drewN | apply Kd.R_drew)); exact HO_11.out⟩, ⟨ bz⟩⟩
                                 · rw [if_neg c39] at H
                                   exact absurd H (by simp)
                               · rw [if_neg c38] at H
                                 exact absurd H (by simp)
                             · rw [if_neg c37] at H
                               exact absurd H (by simp)
                           · rw [if_neg c36] at H
                             exact absurd H (by simp)
                         · replace c35 := Bool.eq_false_iff.mpr c35
                           subst c35
                           have H1 : (spec_Gather.l2 kj27 l0 l1 a2 x7_5 x8_5 x9_2 t890 (wrap64 (x12_3 + 1))) = some r := by rw [if_neg (show ¬ (false = true) by decide)] at H; exact H
                           clear H
                           have H := H1
                           clear H1
                           have H' := Aside0.mk H
                           clear H
                           go_wp2
                           go_roundg kj27
                           case measure => have := HK1.out; have := HK2.out; have := HK3.out; have := HJ24.out; have := HK5.out; have := HJ27.out; omega
                           case rel => exact ⟨(x7_5), (x8_5), (wrap64 (x12_3 + 1)), sz_, sz_, H', ⟨by have := HK1.out; have := HK2.out; have := HK3.out; have := HJ24.out; have := HK5.out; have := HJ27.out; omega⟩, ⟨by (with_reducible repeat (first | apply Kd.V_alloc | apply Kd.V_drewN | apply Kd.V_drew)); exact HO_0.out⟩, ⟨by (with_reducible repeat (first | apply Kd.V_alloc | apply Kd.V_drewN | apply Kd.V_drew)); exact HO_1.out⟩, ⟨by (with_reducible repeat (first | apply Kd.R_alloc | apply Kd.R_drewN | apply Kd.R_drew)); exact HO_7.out⟩, ⟨by (with_reducible repeat (first | apply Kd.N_alloc | apply Kd.N_drewN | apply Kd.N_drew)); exact HO_9.out⟩, ⟨by (with_reducible repeat (first | apply Kd.R_alloc | apply Kd.R_drewN | apply Kd.R_drew)); exact HO_11.out⟩, ⟨ bz⟩⟩
                   · replace c27 := Bool.eq_false_iff.mpr c27
                     subst c27
                     have H1 : (spec_Gather.l0 kj24 l0 l1 a2 x7_3 x8_3) = some r := by rw [if_neg (show ¬ (false = true) by decide)] at H; exact H
                     clear H
                     have H := H1
                     clear H1
                     have H' := Aside0.mk H
                     clear H
                     go_wp2
                     go_roundg kj24
                     case measure => have := HK1.out; have := HK2.out; have := HK3.out; have := HJ24.out; omega
                     case rel => exact ⟨(x7_3), (x8_3), sz_, H', ⟨by have := HK1.out; have := HK2.out; have := HK3.out; have := HJ24.out; omega⟩, ⟨by (with_reducible repeat (first | apply Kd.V_alloc | apply Kd.V_drewN | apply Kd.V_drew)); exact Kd.V_mono HO_0.out (fun _ hk => ⟨hk.1, hk.2.1⟩)⟩, ⟨by (with_reducible repeat (first | apply Kd.V_alloc | apply Kd.V_drewN | apply Kd.V_drew)); exact Kd.V_mono HO_1.out (fun _ hk => ⟨hk.1, hk.2.1⟩)⟩, ⟨by (with_reducible repeat (first | apply Kd.R_alloc | apply Kd.R_drewN | apply Kd.R_drew)); exact HO_7.out⟩, ⟨ bz⟩⟩
         · rw [if_neg c9] at H
           exact absurd H (by simp)
       · replace c8 := Bool.eq_false_iff.mpr c8
         subst c8
         have H1 : (spec_Gather.l4 k1 x7_1 (([] : List Int)) 0) = some r := by rw [if_neg (show ¬ (false = true) by decide)] at H; exact H
         clear H
         have H := H1
         clear H1
         obtain ⟨y901, hy901⟩ : ∃ y_ : List Int, y_ = (([] : List Int)) := ⟨_, rfl⟩
         replace H : (spec_Gather.l4 k1 x7_1 y901 0) = some r := by first | (rw [hy901]; with_reducible exact H) | (have H2_ := (Option.bind_some _ _).symm.trans H; rw [hy901]; with_reducible exact H2_) | (have H2_ := (Option.bind_some _ _).symm.trans H; with_reducible exact H2_) | with_reducible exact H | (rw [hy901]; exact H) | exact H
         have Ny901 := Aside0.mk hy901
         clear hy901
         have H' := Aside0.mk H
         clear H
         go_wp2_with (first | ((with_reducible refine gate_dst (N := 88) rfl ?_); refine Kd.R_lit (Kd.int .i64) _ 2 ?hg (N := 88) ?hd (xs := ([] : List Int)) (inner := []) (ok := fun _ => True) (okp := fun _ => True) ?hr ?hp (fun _ hk => hk) trivial (Below.refl _ _) (Nat.le_refl _) (by simp) ?_; (case hd => rfl); (case hg => rfl); (case hr => first | (go_simp; done) | (go_simp; rfl)); (case hp => exact (Reps.none _ _)); intro v902 w59 ho60 hb hg_ hnew_; clear hg_ hnew_; (first | rw [← Ny901.out] at ho60 | (simp only [Int.reduceToNat] at ho60; rw [← Ny901.out] at ho60)); have n0_ := Aside0.mk (Kd.V_elder' (by (with_reducible repeat (first | apply Kd.V_alloc | apply Kd.V_drewN | apply Kd.V_drew)); exact HO_0.out) (Kd.R_base ho60) hb); have n1_ := Aside0.mk (Kd.V_elder' (by (with_reducible repeat (first | apply Kd.V_alloc | apply Kd.V_drewN | apply Kd.V_drew)); exact HO_1.out) (Kd.R_base ho60) hb); have n2_ := Aside0.mk (Kd.R_below (rz HO_7.out) hb); have n3_ := Aside0.mk (Kd.R_lower (Kd.R_newM (M := fun k_ => (w.heap.size ≤ k_)) ho60 (below_size bz) (fun k_ h_ => h_)) (below_size bz)); have n4_ := Aside0.mk (below_step bz hb); clear HO_0; clear HO_1; clear HO_7; clear HB; have HO_0 := n0_; have HO_1 := n1_; have HO_7 := n2_; have HO903 := n3_; have HB := n4_; clear n0_ n1_ n2_ n3_ n4_; clear hb ho60))
         go_loopg [14, 15] k1 (fun kq v14 v15 w' => ∃ (x14_2 : List Int) (x15_2 : Int), v15 = .int .i64 x15_2 ∧ Aside0 (spec_Gather.l4 kq x7_1 x14_2 x15_2 = some r) ∧ Aside0 (kq ≤ k1) ∧ Aside0 (Kd.R Kd.bool 4 w' w.heap.size (fun k_ => (w.heap.size ≤ k_)) v877 x7_1) ∧ Aside0 (Kd.R (Kd.int .i64) 2 w' w.heap.size (fun k_ => (w.heap.size ≤ k_)) v14 x14_2) ∧ Aside0 (Below w.heap.size w w'))
         case atStart => exact ⟨(y901), (0), sz_, H', ⟨Nat.le_refl _⟩, ⟨by (with_reducible repeat (first | apply Kd.R_alloc | apply Kd.R_drewN | apply Kd.R_drew)); exact HO_7.out⟩, ⟨by (with_reducible repeat (first | apply Kd.R_alloc | apply Kd.R_drewN | apply Kd.R_drew)); exact Kd.R_mono HO903.out (fun _ hk => hk.1)⟩, ⟨ bz⟩⟩
         case round =>
          clear H'
          try clear c2
          try clear p2
          try clear c3
          try clear c4
          try clear p4
          try clear q4
          try clear hx4
          try clear hf4
          try clear p6
          try clear c8
          try clear p8
          try clear q8
          try clear hx8
          try clear c9
          try clear c27
          try clear c35
          try clear c36
          try clear c37
          try clear c38
          try clear c39
          try clear c41
          try clear c43
          try clear c43b0
          try clear c44
          try clear p45
          try clear q45
          try clear hx45
          try clear hf45
          try clear hx45_0
          try clear hx894_0
          try clear hx895_0
          try clear hx897_0
          try clear p45
          try clear p894
          try clear p895
          try clear p897
          try clear q45
          try clear q894
          try clear q895
          try clear q897
          obtain ⟨x14_2, x15_2, rfl, HA, HK2, HO_7, HO_14, HB⟩ := hrel
          cases gk with
          | zero => exact absurd HA.out (by simp [spec_Gather.l4])
          | succ k2 =>
           have H := HA.out
           clear HA
           simp only [spec_Gather.l4] at H
           by_cases c61 : x15_2 < (x7_1.length : Int)
           · rw [if_pos c61] at H
             have c61b0 : decide (x15_2 < (x7_1.length : Int)) = true := decide_eq_true c61
             clear c61
             by_cases c62 : 0 ≤ x15_2
             · rw [if_pos c62] at H
               have c62b0 : decide (0 ≤ x15_2) = true := decide_eq_true c62
               clear c62
               obtain ⟨bq63, hbq63⟩ : ∃ b_ : Bool, b_ = (rdOf false x7_1 x15_2) := ⟨_, rfl⟩
               replace H : (if bq63 = true then (if x14_2.length < 17592186044416 then (spec_Gather.l4 k2 x7_1 (x14_2 ++ [x15_2]) (wrap64 (x15_2 + 1))) else (none)) else (spec_Gather.l4 k2 x7_1 x14_2 (wrap64 (x15_2 + 1)))) = some r := by rw [← hbq63] at H; exact H
               have Nbq63 := Aside0.mk hbq63
               clear hbq63
               by_cases c64 : bq63 = true
               · subst c64
                 have H1 : (if x14_2.length < 17592186044416 then (spec_Gather.l4 k2 x7_1 (x14_2 ++ [x15_2]) (wrap64 (x15_2 + 1))) else (none)) = some r := by rw [if_pos rfl] at H; exact H
                 clear H
                 have H := H1
                 clear H1
                 by_cases c65 : x14_2.length < 17592186044416
                 · rw [if_pos c65] at H
                   have LMc65 := Aside0.mk c65
                   clear c65
                   obtain ⟨y905, hy905⟩ : ∃ y_ : List Int, y_ = (x14_2 ++ [x15_2]) := ⟨_, rfl⟩
                   replace H : (spec_Gather.l4 k2 x7_1 y905 (wrap64 (x15_2 + 1))) = some r := by first | (rw [hy905]; with_reducible exact H) | (have H2_ := (Option.bind_some _ _).symm.trans H; rw [hy905]; with_reducible exact H2_) | (have H2_ := (Option.bind_some _ _).symm.trans H; with_reducible exact H2_) | with_reducible exact H | (rw [hy905]; exact H) | exact H
                   have Ny905 := Aside0.mk hy905
                   clear hy905
                   have H' := Aside0.mk H
                   clear H
                   obtain ⟨Ao66, co66, eo66⟩ := Kd.R_slice HO_7.out
                   subst eo66
                   have p904 : 0 ≤ (x15_2 : Int) := of_decide_eq_true az
                   have q904 : x15_2 < (x7_1.length : Int) := of_decide_eq_true az
                   obtain ⟨ad904, e904, hx904_0⟩ := Kd.at_bool (Kd.R_reads' HO_7.out).2.2 x15_2 p904 q904
                   (try rw [← Nbq63.out] at hx904_0)
                   cases e904
                   replace p904 := eq_true p904
                   replace q904 := eq_true q904
                   go_wp2_with (first | ((with_reducible refine gate_builtin (b := .append) (xs := #[.tmp 99, .tmp 101]) rfl ?_); at_builtin; refine Kd.R_append (Kd.int .i64) (w0 := w) w.heap.size rfl (.tmp 99) (.tmp 101) 22 2 (.int .i64 0) 8 rfl Try.underlying22 info2 rfl (by decide) (by omega) u14 x14_2 x15_2 [.int .i64 x15_2] (fun k_ => (w.heap.size ≤ k_)) (fun _ => False) rfl rfl ?aP (fun _ hk => hk.elim) ?aF ?aO ?aB ?aS ?aL ?_; (case aP => exact rfl); (case aB => exact bz); (case aF => exact (fun k_ hk => (Nat.le_trans (below_size bz) hk))); (case aO => exact (rz HO_14.out)); (case aS => exact (below_size bz)); (case aL => have := LMc65.out; omega); intro v906 w67 ho hb hg hat; rw [← Ny905.out] at ho; have n0_ := Aside0.mk (Kd.R_over' (rz HO_7.out) (Kd.R_typed (rz HO_14.out)) (by decide) hg); have n1_ := Aside0.mk (hb); have n2_ := Aside0.mk (ho); clear HO_7; clear HB; clear HO_14; have HO_7 := n0_; have HB := n1_; have HO907 := n2_; clear n0_ n1_ n2_; clear ho hb hg hat))
                   go_roundg k2
                   case measure => have := HK1.out; have := HK2.out; omega
                   case rel => exact ⟨(y905), (wrap64 (x15_2 + 1)), sz_, H', ⟨by have := HK1.out; have := HK2.out; omega⟩, ⟨by (with_reducible repeat (first | apply Kd.R_alloc | apply Kd.R_drewN | apply Kd.R_drew)); exact HO_7.out⟩, ⟨by (with_reducible repeat (first | apply Kd.R_alloc | apply Kd.R_drewN | apply Kd.R_drew)); exact HO907.out⟩, ⟨ bz⟩⟩
                 · rw [if_neg c65] at H
                   exact absurd H (by simp)
               · replace c64 := Bool.eq_false_iff.mpr c64
                 subst c64
                 have H1 : (spec_Gather.l4 k2 x7_1 x14_2 (wrap64 (x15_2 + 1))) = some r := by rw [if_neg (show ¬ (false = true) by decide)] at H; exact H
                 clear H
                 have H := H1
                 clear H1
                 have H' := Aside0.mk H
                 clear H
                 obtain ⟨Ao68, co68, eo68⟩ := Kd.R_slice HO_7.out
                 subst eo68
                 have p904 : 0 ≤ (x15_2 : Int) := of_decide_eq_true az
                 have q904 : x15_2 < (x7_1.length : Int) := of_decide_eq_true az
                 obtain ⟨ad904, e904, hx904_0⟩ := Kd.at_bool (Kd.R_reads' HO_7.out).2.2 x15_2 p904 q904
                 (try rw [← Nbq63.out] at hx904_0)
                 cases e904
                 replace p904 := eq_true p904
                 replace q904 := eq_true q904
                 go_wp2
                 go_roundg k2
                 case measure => have := HK1.out; have := HK2.out; omega
                 case rel => exact ⟨(x14_2), (wrap64 (x15_2 + 1)), sz_, H', ⟨by have := HK1.out; have := HK2.out; omega⟩, ⟨by (with_reducible repeat (first | apply Kd.R_alloc | apply Kd.R_drewN | apply Kd.R_drew)); exact HO_7.out⟩, ⟨by (with_reducible repeat (first | apply Kd.R_alloc | apply Kd.R_drewN | apply Kd.R_drew)); exact HO_14.out⟩, ⟨ bz⟩⟩
             · rw [if_neg c62] at H
               exact absurd H (by simp)
           · rw [if_neg c61] at H
             have c61b0 : decide (x15_2 < (x7_1.length : Int)) = false := decide_eq_false c61
             clear c61
             obtain rfl := Option.some.inj H
             obtain ⟨Ao69, co69, eo69⟩ := Kd.R_slice HO_7.out
             subst eo69
             go_wp2
             go_ret
             exact ⟨_, by first | rfl | (simp [errW_none, errW_some] <;> rfl) | (simp [*, errW_none, errW_some] <;> rfl), by (with_reducible repeat (first | apply Kd.R_alloc | apply Kd.R_drewN | apply Kd.R_drew)); exact HO_14.out, bz⟩
   · rw [if_neg c5] at H
     exact absurd H (by simp)
 · rw [if_neg c4] at H
   exact absurd H (by simp)

set_option linter.unusedVariables false
set_option linter.unusedSimpArgs false

def impl_localIn.l0 : Nat → ByteArray → List (S130) → Int → Int → Option (Bool)
 | 0, _, _, _, _ => none
 | k + 1, x1, x8, x9, x10 => if x10 < x9 then (if 0 ≤ x10 then (if x10 < (x8.length : Int) then (if ((rd_T130 x8 x10).f0).toList = x1.toList then (if ((rd_T130 x8 x10).f2) = 3 then (some true) else (impl_localIn.l0 k x1 x8 x9 (wrap64 (x10 + 1)))) else (impl_localIn.l0 k x1 x8 x9 (wrap64 (x10 + 1)))) else (none)) else (none)) else (some false)
def impl_localIn.f (k : Nat) (l0_0 : List (S130)) (a1 : ByteArray) : Option (Bool) := impl_localIn.l0 k a1 l0_0 (l0_0.length : Int) 0
set_option maxHeartbeats 8000000 in
set_option maxRecDepth 100000 in
theorem impl_localIn.calls (k : Nat) (A0_0 : Option Addr) (c0_0 : Nat) (l0_0 : List (S130)) (a1 : ByteArray) (r : Bool) (w : World) (hr0_0 : Kd.C k130 w A0_0 l0_0.length l0_0) (hc0_0 : l0_0.length ≤ c0_0) (h : impl_localIn.f k l0_0 a1 = some r) :
 Calls Try.prog 92 #[.agg #[.slice A0_0 l0_0.length c0_0], .string a1] w fun e w' => e = .returned (.bool r) ∧ Below w.heap.size w w' := by
 have hu68 := Try.underlying68
 have hu130 := Try.underlying130
 have HR0_0 := Aside0.mk hr0_0
 have HC0_0 := Aside0.mk hc0_0
 clear hr0_0 hc0_0
 have HB := Aside0.mk (Below.refl w.heap.size w)
 have H : (impl_localIn.l0 k a1 l0_0 (l0_0.length : Int) 0) = some r := h
 clear h
 have H' := Aside0.mk H
 clear H
 go_enter Try.func92, Try.ntmps92
 go_wp2_with (first | ((with_reducible refine gate_dst (N := 2) rfl ?_); refine box_event ?hg (N := 2) ?hd (cs := #[.slice A0_0 l0_0.length c0_0]) (t := 68) ?hr ?_; (case hd => rfl); (case hg => rfl); (case hr => first | (go_simp; done) | (go_simp; rfl)); intro gb908 hg w3 hbox hb; have n0_ := Aside0.mk (below_step bz hb); have n1_ := Aside0.mk (hbox); have n2_ := Aside0.mk ((by rw [hg]; exact (below_size bz) : w.heap.size ≤ gb908)); have n3_ := Aside0.mk ((by rw [hg]; exact (below_size bz) : w.heap.size ≤ gb908)); clear HB; have HB := n0_; have BK908 := n1_; have GW908 := n2_; have GE908 := n3_; clear n0_ n1_ n2_ n3_; clear hb hbox hg; have hcz4_0 : w3.cell? ⟨gb908, 0, none⟩ = some (.slice A0_0 l0_0.length c0_0) := (blk_cell BK908.out 0).trans rfl; have hfz4_0 := blk_frozen BK908.out 0))
 go_loopg [10] k (fun kq v10 w' => ∃ (x10_1 : Int), v10 = .int .i64 x10_1 ∧ Aside0 (impl_localIn.l0 kq a1 l0_0 (l0_0.length : Int) x10_1 = some r) ∧ Aside0 (kq ≤ k) ∧ Aside0 (w'.heap[gb908]? = some (.cells #[(.slice A0_0 l0_0.length c0_0)] 68 (0, 0))) ∧ Aside0 (Below w.heap.size w w'))
 case atStart => exact ⟨(0), sz_, H', ⟨Nat.le_refl _⟩, ⟨ kz⟩, ⟨ bz⟩⟩
 case round =>
  clear H'
  try clear p2
  try clear hcz4_0
  try clear hfz4_0
  obtain ⟨x10_1, rfl, HA, HK1, BK908, HB⟩ := hrel
  cases gk with
  | zero => exact absurd HA.out (by simp [impl_localIn.l0])
  | succ k1 =>
   have H := HA.out
   clear HA
   simp only [impl_localIn.l0] at H
   by_cases c5 : x10_1 < (l0_0.length : Int)
   · rw [if_pos c5] at H
     have c5b0 : decide (x10_1 < (l0_0.length : Int)) = true := decide_eq_true c5
     clear c5
     by_cases c6 : 0 ≤ x10_1
     · rw [if_pos c6] at H
       have c6b0 : decide (0 ≤ x10_1) = true := decide_eq_true c6
       clear c6
       by_cases c7 : x10_1 < (l0_0.length : Int)
       · rw [if_pos c7] at H
         have c7b0 : decide (x10_1 < (l0_0.length : Int)) = true := decide_eq_true c7
         clear c7
         by_cases c8 : ((rd_T130 l0_0 x10_1).f0).toList = a1.toList
         · rw [if_pos c8] at H
           have c8b0 : (((rd_T130 l0_0 x10_1).f0).toList == a1.toList) = true := beq_iff_eq.mpr c8
           have c8b1 : (((rd_T130 l0_0 x10_1).f0).toList != a1.toList) = false := bne_eq_false_iff_eq.mpr c8
           clear c8
           by_cases c9 : ((rd_T130 l0_0 x10_1).f2) = 3
           · rw [if_pos c9] at H
             have c9b0 : (((rd_T130 l0_0 x10_1).f2) == 3) = true := beq_iff_eq.mpr c9
             have c9b1 : (((rd_T130 l0_0 x10_1).f2) != 3) = false := bne_eq_false_iff_eq.mpr c9
             clear c9
             obtain rfl := Option.some.inj H
             have p909 : 0 ≤ (x10_1 : Int) := of_decide_eq_true az
             have q909 : x10_1 < (l0_0.length : Int) := of_decide_eq_true az
             obtain ⟨ad909, A909_4, c909_4, A909_6, c909_6, A909_7, c909_7, e909, hx909_0, hx909_1, hx909_2, hx909_3, hx909_4, hx909_5, hx909_6, hx909_7, hl909_4, hi909_4, hl909_6, hi909_6, hl909_7, hi909_7⟩ := at_T130 HR0_0.out x10_1 p909 q909
             cases e909
             replace hx909_0 := ck HB hx909_0
             replace hx909_1 := ck HB hx909_1
             replace hx909_2 := ck HB hx909_2
             replace hx909_3 := ck HB hx909_3
             replace hx909_4 := ck HB hx909_4
             replace hx909_5 := ck HB hx909_5
             replace hx909_6 := ck HB hx909_6
             replace hx909_7 := ck HB hx909_7
             have HR909_4 := Aside0.mk hi909_4
             have HC909_4 := Aside0.mk hl909_4
             clear hi909_4 hl909_4
             have HR909_6 := Aside0.mk hi909_6
             have HC909_6 := Aside0.mk hl909_6
             clear hi909_6 hl909_6
             have HR909_7 := Aside0.mk hi909_7
             have HC909_7 := Aside0.mk hl909_7
             clear hi909_7 hl909_7
             replace p909 := eq_true p909
             replace q909 := eq_true q909
             go_wp2_with (first | ((with_reducible refine gate_dst (N := 6) rfl ?_); refine box_event ?hg (N := 6) ?hd (cs := #[.string (⟨#[]⟩ : ByteArray), .int .i64 0, .int .i64 0, .int .i64 0, .slice none 0 0, .int .i64 0, .slice none 0 0, .slice none 0 0]) (t := 130) ?hr ?_; (case hd => rfl); (case hg => rfl); (case hr => first | (go_simp; done) | (go_simp; rfl)); intro gb910 hg w10 hbox hb; have n0_ := Aside0.mk (blk_below (g := gb908) (o := .cells #[.slice (some ad909) l0_0.length c0_0] 68 (0, 0)) kz hb); have n1_ := Aside0.mk (below_step bz hb); have n2_ := Aside0.mk (hbox); have n3_ := Aside0.mk ((by rw [hg]; exact (below_size bz) : w.heap.size ≤ gb910)); have n4_ := Aside0.mk ((by rw [hg]; exact (below_size bz) : w.heap.size ≤ gb910)); have n5_ := Aside0.mk ((by rw [hg]; exact Nat.ne_of_lt (blk_lt (g := gb908) (o := .cells #[.slice (some ad909) l0_0.length c0_0] 68 (0, 0)) kz) : gb908 ≠ gb910)); have n6_ := Aside0.mk ((by rw [hg]; exact Nat.ne_of_gt (blk_lt (g := gb908) (o := .cells #[.slice (some ad909) l0_0.length c0_0] 68 (0, 0)) kz) : gb910 ≠ gb908)); clear BK908; clear HB; have BK908 := n0_; have HB := n1_; have BK910 := n2_; have GW910 := n3_; have GE910 := n4_; have NB908_910 := n5_; have NB910_908 := n6_; clear n0_ n1_ n2_ n3_ n4_ n5_ n6_; clear hb hbox hg; have hnb11 := NB910_908.out; have hnc11 := NB908_910.out; have hcz12_0 : w10.cell? ⟨gb910, 0, none⟩ = some (.string (⟨#[]⟩ : ByteArray)) := (blk_cell BK910.out 0).trans rfl; have hcz12_1 : w10.cell? ⟨gb910, 1, none⟩ = some (.int .i64 0) := (blk_cell BK910.out 1).trans rfl; have hcz12_2 : w10.cell? ⟨gb910, 2, none⟩ = some (.int .i64 0) := (blk_cell BK910.out 2).trans rfl; have hcz12_3 : w10.cell? ⟨gb910, 3, none⟩ = some (.int .i64 0) := (blk_cell BK910.out 3).trans rfl; have hcz12_4 : w10.cell? ⟨gb910, 4, none⟩ = some (.slice none 0 0) := (blk_cell BK910.out 4).trans rfl; have hcz12_5 : w10.cell? ⟨gb910, 5, none⟩ = some (.int .i64 0) := (blk_cell BK910.out 5).trans rfl; have hcz12_6 : w10.cell? ⟨gb910, 6, none⟩ = some (.slice none 0 0) := (blk_cell BK910.out 6).trans rfl; have hcz12_7 : w10.cell? ⟨gb910, 7, none⟩ = some (.slice none 0 0) := (blk_cell BK910.out 7).trans rfl; have hfz12_0 := blk_frozen BK910.out 0; have hfz12_1 := blk_frozen BK910.out 1; have hfz12_2 := blk_frozen BK910.out 2; have hfz12_3 := blk_frozen BK910.out 3; have hfz12_4 := blk_frozen BK910.out 4; have hfz12_5 := blk_frozen BK910.out 5; have hfz12_6 := blk_frozen BK910.out 6; have hfz12_7 := blk_frozen BK910.out 7))
             go_ret
             exact ⟨by first | rfl | (simp [errW_none, errW_some] <;> rfl) | (simp [*, errW_none, errW_some] <;> rfl), bz⟩
           · rw [if_neg c9] at H
             have c9b0 : (((rd_T130 l0_0 x10_1).f2) == 3) = false := beq_eq_false_iff_ne.mpr c9
             have c9b1 : (((rd_T130 l0_0 x10_1).f2) != 3) = true := bne_iff_ne.mpr c9
             have H' := Aside0.mk H
             clear H
             have p909 : 0 ≤ (x10_1 : Int) := of_decide_eq_true az
             have q909 : x10_1 < (l0_0.length : Int) := of_decide_eq_true az
             obtain ⟨ad909, A909_4, c909_4, A909_6, c909_6, A909_7, c909_7, e909, hx909_0, hx909_1, hx909_2, hx909_3, hx909_4, hx909_5, hx909_6, hx909_7, hl909_4, hi909_4, hl909_6, hi909_6, hl909_7, hi909_7⟩ := at_T130 HR0_0.out x10_1 p909 q909
             cases e909
             replace hx909_0 := ck HB hx909_0
             replace hx909_1 := ck HB hx909_1
             replace hx909_2 := ck HB hx909_2
             replace hx909_3 := ck HB hx909_3
             replace hx909_4 := ck HB hx909_4
             replace hx909_5 := ck HB hx909_5
             replace hx909_6 := ck HB hx909_6
             replace hx909_7 := ck HB hx909_7
             have HR909_4 := Aside0.mk hi909_4
             have HC909_4 := Aside0.mk hl909_4
             clear hi909_4 hl909_4
             have HR909_6 := Aside0.mk hi909_6
             have HC909_6 := Aside0.mk hl909_6
             clear hi909_6 hl909_6
             have HR909_7 := Aside0.mk hi909_7
             have HC909_7 := Aside0.mk hl909_7
             clear hi909_7 hl909_7
             replace p909 := eq_true p909
             replace q909 := eq_true q909
             go_wp2_with (first | ((with_reducible refine gate_dst (N := 6) rfl ?_); refine box_event ?hg (N := 6) ?hd (cs := #[.string (⟨#[]⟩ : ByteArray), .int .i64 0, .int .i64 0, .int .i64 0, .slice none 0 0, .int .i64 0, .slice none 0 0, .slice none 0 0]) (t := 130) ?hr ?_; (case hd => rfl); (case hg => rfl); (case hr => first | (go_simp; done) | (go_simp; rfl)); intro gb910 hg w13 hbox hb; have n0_ := Aside0.mk (blk_below (g := gb908) (o := .cells #[.slice (some ad909) l0_0.length c0_0] 68 (0, 0)) kz hb); have n1_ := Aside0.mk (below_step bz hb); have n2_ := Aside0.mk (hbox); have n3_ := Aside0.mk ((by rw [hg]; exact (below_size bz) : w.heap.size ≤ gb910)); have n4_ := Aside0.mk ((by rw [hg]; exact (below_size bz) : w.heap.size ≤ gb910)); have n5_ := Aside0.mk ((by rw [hg]; exact Nat.ne_of_lt (blk_lt (g := gb908) (o := .cells #[.slice (some ad909) l0_0.length c0_0] 68 (0, 0)) kz) : gb908 ≠ gb910)); have n6_ := Aside0.mk ((by rw [hg]; exact Nat.ne_of_gt (blk_lt (g := gb908) (o := .cells #[.slice (some ad909) l0_0.length c0_0] 68 (0, 0)) kz) : gb910 ≠ gb908)); clear BK908; clear HB; have BK908 := n0_; have HB := n1_; have BK910 := n2_; have GW910 := n3_; have GE910 := n4_; have NB908_910 := n5_; have NB910_908 := n6_; clear n0_ n1_ n2_ n3_ n4_ n5_ n6_; clear hb hbox hg; have hnb14 := NB910_908.out; have hnc14 := NB908_910.out; have hcz15_0 : w13.cell? ⟨gb910, 0, none⟩ = some (.string (⟨#[]⟩ : ByteArray)) := (blk_cell BK910.out 0).trans rfl; have hcz15_1 : w13.cell? ⟨gb910, 1, none⟩ = some (.int .i64 0) := (blk_cell BK910.out 1).trans rfl; have hcz15_2 : w13.cell? ⟨gb910, 2, none⟩ = some (.int .i64 0) := (blk_cell BK910.out 2).trans rfl; have hcz15_3 : w13.cell? ⟨gb910, 3, none⟩ = some (.int .i64 0) := (blk_cell BK910.out 3).trans rfl; have hcz15_4 : w13.cell? ⟨gb910, 4, none⟩ = some (.slice none 0 0) := (blk_cell BK910.out 4).trans rfl; have hcz15_5 : w13.cell? ⟨gb910, 5, none⟩ = some (.int .i64 0) := (blk_cell BK910.out 5).trans rfl; have hcz15_6 : w13.cell? ⟨gb910, 6, none⟩ = some (.slice none 0 0) := (blk_cell BK910.out 6).trans rfl; have hcz15_7 : w13.cell? ⟨gb910, 7, none⟩ = some (.slice none 0 0) := (blk_cell BK910.out 7).trans rfl; have hfz15_0 := blk_frozen BK910.out 0; have hfz15_1 := blk_frozen BK910.out 1; have hfz15_2 := blk_frozen BK910.out 2; have hfz15_3 := blk_frozen BK910.out 3; have hfz15_4 := blk_frozen BK910.out 4; have hfz15_5 := blk_frozen BK910.out 5; have hfz15_6 := blk_frozen BK910.out 6; have hfz15_7 := blk_frozen BK910.out 7))
             go_roundg k1
             case measure => have := HK1.out; omega
             case rel => exact ⟨(wrap64 (x10_1 + 1)), sz_, H', ⟨by have := HK1.out; omega⟩, ⟨by (with_reducible repeat (first | refine blk_drewN ?_ _ | refine blk_drew ?_ | refine blk_alloc ?_ _)); refine blk_far ?_ NB908_910.out _; (with_reducible repeat (first | refine blk_drewN ?_ _ | refine blk_drew ?_ | refine blk_alloc ?_ _)); refine blk_far ?_ NB908_910.out _; (with_reducible repeat (first | refine blk_drewN ?_ _ | refine blk_drew ?_ | refine blk_alloc ?_ _)); refine blk_far ?_ NB908_910.out _; (with_reducible repeat (first | refine blk_drewN ?_ _ | refine blk_drew ?_ | refine blk_alloc ?_ _)); refine blk_far ?_ NB908_910.out _; (with_reducible repeat (first | refine blk_drewN ?_ _ | refine blk_drew ?_ | refine blk_alloc ?_ _)); refine blk_far ?_ NB908_910.out _; (with_reducible repeat (first | refine blk_drewN ?_ _ | refine blk_drew ?_ | refine blk_alloc ?_ _)); refine blk_far ?_ NB908_910.out _; (with_reducible repeat (first | refine blk_drewN ?_ _ | refine blk_drew ?_ | refine blk_alloc ?_ _)); refine blk_far ?_ NB908_910.out _; (with_reducible repeat (first | refine blk_drewN ?_ _ | refine blk_drew ?_ | refine blk_alloc ?_ _)); refine blk_far ?_ NB908_910.out _; (with_reducible repeat (first | refine blk_drewN ?_ _ | refine blk_drew ?_ | refine blk_alloc ?_ _)); exact BK908.out⟩, ⟨ bz⟩⟩
         · rw [if_neg c8] at H
           have c8b0 : (((rd_T130 l0_0 x10_1).f0).toList == a1.toList) = false := beq_eq_false_iff_ne.mpr c8
           have c8b1 : (((rd_T130 l0_0 x10_1).f0).toList != a1.toList) = true := bne_iff_ne.mpr c8
           have H' := Aside0.mk H
           clear H
           have p909 : 0 ≤ (x10_1 : Int) := of_decide_eq_true az
           have q909 : x10_1 < (l0_0.length : Int) := of_decide_eq_true az
           obtain ⟨ad909, A909_4, c909_4, A909_6, c909_6, A909_7, c909_7, e909, hx909_0, hx909_1, hx909_2, hx909_3, hx909_4, hx909_5, hx909_6, hx909_7, hl909_4, hi909_4, hl909_6, hi909_6, hl909_7, hi909_7⟩ := at_T130 HR0_0.out x10_1 p909 q909
           cases e909
           replace hx909_0 := ck HB hx909_0
           replace hx909_1 := ck HB hx909_1
           replace hx909_2 := ck HB hx909_2
           replace hx909_3 := ck HB hx909_3
           replace hx909_4 := ck HB hx909_4
           replace hx909_5 := ck HB hx909_5
           replace hx909_6 := ck HB hx909_6
           replace hx909_7 := ck HB hx909_7
           have HR909_4 := Aside0.mk hi909_4
           have HC909_4 := Aside0.mk hl909_4
           clear hi909_4 hl909_4
           have HR909_6 := Aside0.mk hi909_6
           have HC909_6 := Aside0.mk hl909_6
           clear hi909_6 hl909_6
           have HR909_7 := Aside0.mk hi909_7
           have HC909_7 := Aside0.mk hl909_7
           clear hi909_7 hl909_7
           replace p909 := eq_true p909
           replace q909 := eq_true q909
           go_wp2_with (first | ((with_reducible refine gate_dst (N := 6) rfl ?_); refine box_event ?hg (N := 6) ?hd (cs := #[.string (⟨#[]⟩ : ByteArray), .int .i64 0, .int .i64 0, .int .i64 0, .slice none 0 0, .int .i64 0, .slice none 0 0, .slice none 0 0]) (t := 130) ?hr ?_; (case hd => rfl); (case hg => rfl); (case hr => first | (go_simp; done) | (go_simp; rfl)); intro gb910 hg w16 hbox hb; have n0_ := Aside0.mk (blk_below (g := gb908) (o := .cells #[.slice (some ad909) l0_0.length c0_0] 68 (0, 0)) kz hb); have n1_ := Aside0.mk (below_step bz hb); have n2_ := Aside0.mk (hbox); have n3_ := Aside0.mk ((by rw [hg]; exact (below_size bz) : w.heap.size ≤ gb910)); have n4_ := Aside0.mk ((by rw [hg]; exact (below_size bz) : w.heap.size ≤ gb910)); have n5_ := Aside0.mk ((by rw [hg]; exact Nat.ne_of_lt (blk_lt (g := gb908) (o := .cells #[.slice (some ad909) l0_0.length c0_0] 68 (0, 0)) kz) : gb908 ≠ gb910)); have n6_ := Aside0.mk ((by rw [hg]; exact Nat.ne_of_gt (blk_lt (g := gb908) (o := .cells #[.slice (some ad909) l0_0.length c0_0] 68 (0, 0)) kz) : gb910 ≠ gb908)); clear BK908; clear HB; have BK908 := n0_; have HB := n1_; have BK910 := n2_; have GW910 := n3_; have GE910 := n4_; have NB908_910 := n5_; have NB910_908 := n6_; clear n0_ n1_ n2_ n3_ n4_ n5_ n6_; clear hb hbox hg; have hnb17 := NB910_908.out; have hnc17 := NB908_910.out; have hcz18_0 : w16.cell? ⟨gb910, 0, none⟩ = some (.string (⟨#[]⟩ : ByteArray)) := (blk_cell BK910.out 0).trans rfl; have hcz18_1 : w16.cell? ⟨gb910, 1, none⟩ = some (.int .i64 0) := (blk_cell BK910.out 1).trans rfl; have hcz18_2 : w16.cell? ⟨gb910, 2, none⟩ = some (.int .i64 0) := (blk_cell BK910.out 2).trans rfl; have hcz18_3 : w16.cell? ⟨gb910, 3, none⟩ = some (.int .i64 0) := (blk_cell BK910.out 3).trans rfl; have hcz18_4 : w16.cell? ⟨gb910, 4, none⟩ = some (.slice none 0 0) := (blk_cell BK910.out 4).trans rfl; have hcz18_5 : w16.cell? ⟨gb910, 5, none⟩ = some (.int .i64 0) := (blk_cell BK910.out 5).trans rfl; have hcz18_6 : w16.cell? ⟨gb910, 6, none⟩ = some (.slice none 0 0) := (blk_cell BK910.out 6).trans rfl; have hcz18_7 : w16.cell? ⟨gb910, 7, none⟩ = some (.slice none 0 0) := (blk_cell BK910.out 7).trans rfl; have hfz18_0 := blk_frozen BK910.out 0; have hfz18_1 := blk_frozen BK910.out 1; have hfz18_2 := blk_frozen BK910.out 2; have hfz18_3 := blk_frozen BK910.out 3; have hfz18_4 := blk_frozen BK910.out 4; have hfz18_5 := blk_frozen BK910.out 5; have hfz18_6 := blk_frozen BK910.out 6; have hfz18_7 := blk_frozen BK910.out 7))
           go_roundg k1
           case measure => have := HK1.out; omega
           case rel => exact ⟨(wrap64 (x10_1 + 1)), sz_, H', ⟨by have := HK1.out; omega⟩, ⟨by (with_reducible repeat (first | refine blk_drewN ?_ _ | refine blk_drew ?_ | refine blk_alloc ?_ _)); refine blk_far ?_ NB908_910.out _; (with_reducible repeat (first | refine blk_drewN ?_ _ | refine blk_drew ?_ | refine blk_alloc ?_ _)); refine blk_far ?_ NB908_910.out _; (with_reducible repeat (first | refine blk_drewN ?_ _ | refine blk_drew ?_ | refine blk_alloc ?_ _)); refine blk_far ?_ NB908_910.out _; (with_reducible repeat (first | refine blk_drewN ?_ _ | refine blk_drew ?_ | refine blk_alloc ?_ _)); refine blk_far ?_ NB908_910.out _; (with_reducible repeat (first | refine blk_drewN ?_ _ | refine blk_drew ?_ | refine blk_alloc ?_ _)); refine blk_far ?_ NB908_910.out _; (with_reducible repeat (first | refine blk_drewN ?_ _ | refine blk_drew ?_ | refine blk_alloc ?_ _)); refine blk_far ?_ NB908_910.out _; (with_reducible repeat (first | refine blk_drewN ?_ _ | refine blk_drew ?_ | refine blk_alloc ?_ _)); refine blk_far ?_ NB908_910.out _; (with_reducible repeat (first | refine blk_drewN ?_ _ | refine blk_drew ?_ | refine blk_alloc ?_ _)); refine blk_far ?_ NB908_910.out _; (with_reducible repeat (first | refine blk_drewN ?_ _ | refine blk_drew ?_ | refine blk_alloc ?_ _)); exact BK908.out⟩, ⟨ bz⟩⟩
       · rw [if_neg c7] at H
         exact absurd H (by simp)
     · rw [if_neg c6] at H
       exact absurd H (by simp)
   · rw [if_neg c5] at H
     have c5b0 : decide (x10_1 < (l0_0.length : Int)) = false := decide_eq_false c5
     clear c5
     obtain rfl := Option.some.inj H
     go_wp2
     go_ret
     exact ⟨by first | rfl | (simp [errW_none, errW_some] <;> rfl) | (simp [*, errW_none, errW_some] <;> rfl), bz⟩

set_option linter.unusedVariables false
set_option linter.unusedSimpArgs false

def impl_gives.l0 : Nat → ByteArray → List (S130) → Int → Int → Option (Bool)
 | 0, _, _, _, _ => none
 | k + 1, x1, x8, x9, x10 => if x10 < x9 then (if 0 ≤ x10 then (if x10 < (x8.length : Int) then (if ((rd_T130 x8 x10).f0).toList = x1.toList then (if ((rd_T130 x8 x10).f2) = 1 then (some true) else (if ((rd_T130 x8 x10).f2) = 2 then (some true) else (impl_gives.l0 k x1 x8 x9 (wrap64 (x10 + 1))))) else (impl_gives.l0 k x1 x8 x9 (wrap64 (x10 + 1)))) else (none)) else (none)) else (some false)
def impl_gives.f (k : Nat) (l0_0 : List (S130)) (a1 : ByteArray) : Option (Bool) := impl_gives.l0 k a1 l0_0 (l0_0.length : Int) 0
set_option maxHeartbeats 8000000 in
set_option maxRecDepth 100000 in
theorem impl_gives.calls (k : Nat) (A0_0 : Option Addr) (c0_0 : Nat) (l0_0 : List (S130)) (a1 : ByteArray) (r : Bool) (w : World) (hr0_0 : Kd.C k130 w A0_0 l0_0.length l0_0) (hc0_0 : l0_0.length ≤ c0_0) (h : impl_gives.f k l0_0 a1 = some r) :
 Calls Try.prog 93 #[.agg #[.slice A0_0 l0_0.length c0_0], .string a1] w fun e w' => e = .returned (.bool r) ∧ Below w.heap.size w w' := by
 have hu68 := Try.underlying68
 have hu130 := Try.underlying130
 have HR0_0 := Aside0.mk hr0_0
 have HC0_0 := Aside0.mk hc0_0
 clear hr0_0 hc0_0
 have HB := Aside0.mk (Below.refl w.heap.size w)
 have H : (impl_gives.l0 k a1 l0_0 (l0_0.length : Int) 0) = some r := h
 clear h
 have H' := Aside0.mk H
 clear H
 go_enter Try.func93, Try.ntmps93
 go_wp2_with (first | ((with_reducible refine gate_dst (N := 2) rfl ?_); refine box_event ?hg (N := 2) ?hd (cs := #[.slice A0_0 l0_0.length c0_0]) (t := 68) ?hr ?_; (case hd => rfl); (case hg => rfl); (case hr => first | (go_simp; done) | (go_simp; rfl)); intro gb911 hg w3 hbox hb; have n0_ := Aside0.mk (below_step bz hb); have n1_ := Aside0.mk (hbox); have n2_ := Aside0.mk ((by rw [hg]; exact (below_size bz) : w.heap.size ≤ gb911)); have n3_ := Aside0.mk ((by rw [hg]; exact (below_size bz) : w.heap.size ≤ gb911)); clear HB; have HB := n0_; have BK911 := n1_; have GW911 := n2_; have GE911 := n3_; clear n0_ n1_ n2_ n3_; clear hb hbox hg; have hcz4_0 : w3.cell? ⟨gb911, 0, none⟩ = some (.slice A0_0 l0_0.length c0_0) := (blk_cell BK911.out 0).trans rfl; have hfz4_0 := blk_frozen BK911.out 0))
 go_loopg [10] k (fun kq v10 w' => ∃ (x10_1 : Int), v10 = .int .i64 x10_1 ∧ Aside0 (impl_gives.l0 kq a1 l0_0 (l0_0.length : Int) x10_1 = some r) ∧ Aside0 (kq ≤ k) ∧ Aside0 (w'.heap[gb911]? = some (.cells #[(.slice A0_0 l0_0.length c0_0)] 68 (0, 0))) ∧ Aside0 (Below w.heap.size w w'))
 case atStart => exact ⟨(0), sz_, H', ⟨Nat.le_refl _⟩, ⟨ kz⟩, ⟨ bz⟩⟩
 case round =>
  clear H'
  try clear p2
  try clear hcz4_0
  try clear hfz4_0
  obtain ⟨x10_1, rfl, HA, HK1, BK911, HB⟩ := hrel
  cases gk with
  | zero => exact absurd HA.out (by simp [impl_gives.l0])
  | succ k1 =>
   have H := HA.out
   clear HA
   simp only [impl_gives.l0] at H
   by_cases c5 : x10_1 < (l0_0.length : Int)
   · rw [if_pos c5] at H
     have c5b0 : decide (x10_1 < (l0_0.length : Int)) = true := decide_eq_true c5
     clear c5
     by_cases c6 : 0 ≤ x10_1
     · rw [if_pos c6] at H
       have c6b0 : decide (0 ≤ x10_1) = true := decide_eq_true c6
       clear c6
       by_cases c7 : x10_1 < (l0_0.length : Int)
       · rw [if_pos c7] at H
         have c7b0 : decide (x10_1 < (l0_0.length : Int)) = true := decide_eq_true c7
         clear c7
         by_cases c8 : ((rd_T130 l0_0 x10_1).f0).toList = a1.toList
         · rw [if_pos c8] at H
           have c8b0 : (((rd_T130 l0_0 x10_1).f0).toList == a1.toList) = true := beq_iff_eq.mpr c8
           have c8b1 : (((rd_T130 l0_0 x10_1).f0).toList != a1.toList) = false := bne_eq_false_iff_eq.mpr c8
           clear c8
           by_cases c9 : ((rd_T130 l0_0 x10_1).f2) = 1
           · rw [if_pos c9] at H
             have c9b0 : (((rd_T130 l0_0 x10_1).f2) == 1) = true := beq_iff_eq.mpr c9
             have c9b1 : (((rd_T130 l0_0 x10_1).f2) != 1) = false := bne_eq_false_iff_eq.mpr c9
             clear c9
             obtain rfl := Option.some.inj H
             have p912 : 0 ≤ (x10_1 : Int) := of_decide_eq_true az
             have q912 : x10_1 < (l0_0.length : Int) := of_decide_eq_true az
             obtain ⟨ad912, A912_4, c912_4, A912_6, c912_6, A912_7, c912_7, e912, hx912_0, hx912_1, hx912_2, hx912_3, hx912_4, hx912_5, hx912_6, hx912_7, hl912_4, hi912_4, hl912_6, hi912_6, hl912_7, hi912_7⟩ := at_T130 HR0_0.out x10_1 p912 q912
             cases e912
             replace hx912_0 := ck HB hx912_0
             replace hx912_1 := ck HB hx912_1
             replace hx912_2 := ck HB hx912_2
             replace hx912_3 := ck HB hx912_3
             replace hx912_4 := ck HB hx912_4
             replace hx912_5 := ck HB hx912_5
             replace hx912_6 := ck HB hx912_6
             replace hx912_7 := ck HB hx912_7
             have HR912_4 := Aside0.mk hi912_4
             have HC912_4 := Aside0.mk hl912_4
             clear hi912_4 hl912_4
             have HR912_6 := Aside0.mk hi912_6
             have HC912_6 := Aside0.mk hl912_6
             clear hi912_6 hl912_6
             have HR912_7 := Aside0.mk hi912_7
             have HC912_7 := Aside0.mk hl912_7
             clear hi912_7 hl912_7
             replace p912 := eq_true p912
             replace q912 := eq_true q912
             go_wp2_with (first | ((with_reducible refine gate_dst (N := 6) rfl ?_); refine box_event ?hg (N := 6) ?hd (cs := #[.string (⟨#[]⟩ : ByteArray), .int .i64 0, .int .i64 0, .int .i64 0, .slice none 0 0, .int .i64 0, .slice none 0 0, .slice none 0 0]) (t := 130) ?hr ?_; (case hd => rfl); (case hg => rfl); (case hr => first | (go_simp; done) | (go_simp; rfl)); intro gb913 hg w10 hbox hb; have n0_ := Aside0.mk (blk_below (g := gb911) (o := .cells #[.slice (some ad912) l0_0.length c0_0] 68 (0, 0)) kz hb); have n1_ := Aside0.mk (below_step bz hb); have n2_ := Aside0.mk (hbox); have n3_ := Aside0.mk ((by rw [hg]; exact (below_size bz) : w.heap.size ≤ gb913)); have n4_ := Aside0.mk ((by rw [hg]; exact (below_size bz) : w.heap.size ≤ gb913)); have n5_ := Aside0.mk ((by rw [hg]; exact Nat.ne_of_lt (blk_lt (g := gb911) (o := .cells #[.slice (some ad912) l0_0.length c0_0] 68 (0, 0)) kz) : gb911 ≠ gb913)); have n6_ := Aside0.mk ((by rw [hg]; exact Nat.ne_of_gt (blk_lt (g := gb911) (o := .cells #[.slice (some ad912) l0_0.length c0_0] 68 (0, 0)) kz) : gb913 ≠ gb911)); clear BK911; clear HB; have BK911 := n0_; have HB := n1_; have BK913 := n2_; have GW913 := n3_; have GE913 := n4_; have NB911_913 := n5_; have NB913_911 := n6_; clear n0_ n1_ n2_ n3_ n4_ n5_ n6_; clear hb hbox hg; have hnb11 := NB913_911.out; have hnc11 := NB911_913.out; have hcz12_0 : w10.cell? ⟨gb913, 0, none⟩ = some (.string (⟨#[]⟩ : ByteArray)) := (blk_cell BK913.out 0).trans rfl; have hcz12_1 : w10.cell? ⟨gb913, 1, none⟩ = some (.int .i64 0) := (blk_cell BK913.out 1).trans rfl; have hcz12_2 : w10.cell? ⟨gb913, 2, none⟩ = some (.int .i64 0) := (blk_cell BK913.out 2).trans rfl; have hcz12_3 : w10.cell? ⟨gb913, 3, none⟩ = some (.int .i64 0) := (blk_cell BK913.out 3).trans rfl; have hcz12_4 : w10.cell? ⟨gb913, 4, none⟩ = some (.slice none 0 0) := (blk_cell BK913.out 4).trans rfl; have hcz12_5 : w10.cell? ⟨gb913, 5, none⟩ = some (.int .i64 0) := (blk_cell BK913.out 5).trans rfl; have hcz12_6 : w10.cell? ⟨gb913, 6, none⟩ = some (.slice none 0 0) := (blk_cell BK913.out 6).trans rfl; have hcz12_7 : w10.cell? ⟨gb913, 7, none⟩ = some (.slice none 0 0) := (blk_cell BK913.out 7).trans rfl; have hfz12_0 := blk_frozen BK913.out 0; have hfz12_1 := blk_frozen BK913.out 1; have hfz12_2 := blk_frozen BK913.out 2; have hfz12_3 := blk_frozen BK913.out 3; have hfz12_4 := blk_frozen BK913.out 4; have hfz12_5 := blk_frozen BK913.out 5; have hfz12_6 := blk_frozen BK913.out 6; have hfz12_7 := blk_frozen BK913.out 7))
             go_ret
             exact ⟨by first | rfl | (simp [errW_none, errW_some] <;> rfl) | (simp [*, errW_none, errW_some] <;> rfl), bz⟩
           · rw [if_neg c9] at H
             have c9b0 : (((rd_T130 l0_0 x10_1).f2) == 1) = false := beq_eq_false_iff_ne.mpr c9
             have c9b1 : (((rd_T130 l0_0 x10_1).f2) != 1) = true := bne_iff_ne.mpr c9
             by_cases c13 : ((rd_T130 l0_0 x10_1).f2) = 2
             · rw [if_pos c13] at H
               have c13b0 : (((rd_T130 l0_0 x10_1).f2) == 2) = true := beq_iff_eq.mpr c13
               have c13b1 : (((rd_T130 l0_0 x10_1).f2) != 2) = false := bne_eq_false_iff_eq.mpr c13
               clear c13
               obtain rfl := Option.some.inj H
               have p912 : 0 ≤ (x10_1 : Int) := of_decide_eq_true az
               have q912 : x10_1 < (l0_0.length : Int) := of_decide_eq_true az
               obtain ⟨ad912, A912_4, c912_4, A912_6, c912_6, A912_7, c912_7, e912, hx912_0, hx912_1, hx912_2, hx912_3, hx912_4, hx912_5, hx912_6, hx912_7, hl912_4, hi912_4, hl912_6, hi912_6, hl912_7, hi912_7⟩ := at_T130 HR0_0.out x10_1 p912 q912
               cases e912
               replace hx912_0 := ck HB hx912_0
               replace hx912_1 := ck HB hx912_1
               replace hx912_2 := ck HB hx912_2
               replace hx912_3 := ck HB hx912_3
               replace hx912_4 := ck HB hx912_4
               replace hx912_5 := ck HB hx912_5
               replace hx912_6 := ck HB hx912_6
               replace hx912_7 := ck HB hx912_7
               have HR912_4 := Aside0.mk hi912_4
               have HC912_4 := Aside0.mk hl912_4
               clear hi912_4 hl912_4
               have HR912_6 := Aside0.mk hi912_6
               have HC912_6 := Aside0.mk hl912_6
               clear hi912_6 hl912_6
               have HR912_7 := Aside0.mk hi912_7
               have HC912_7 := Aside0.mk hl912_7
               clear hi912_7 hl912_7
               replace p912 := eq_true p912
               replace q912 := eq_true q912
               go_wp2_with (first | ((with_reducible refine gate_dst (N := 6) rfl ?_); refine box_event ?hg (N := 6) ?hd (cs := #[.string (⟨#[]⟩ : ByteArray), .int .i64 0, .int .i64 0, .int .i64 0, .slice none 0 0, .int .i64 0, .slice none 0 0, .slice none 0 0]) (t := 130) ?hr ?_; (case hd => rfl); (case hg => rfl); (case hr => first | (go_simp; done) | (go_simp; rfl)); intro gb913 hg w14 hbox hb; have n0_ := Aside0.mk (blk_below (g := gb911) (o := .cells #[.slice (some ad912) l0_0.length c0_0] 68 (0, 0)) kz hb); have n1_ := Aside0.mk (below_step bz hb); have n2_ := Aside0.mk (hbox); have n3_ := Aside0.mk ((by rw [hg]; exact (below_size bz) : w.heap.size ≤ gb913)); have n4_ := Aside0.mk ((by rw [hg]; exact (below_size bz) : w.heap.size ≤ gb913)); have n5_ := Aside0.mk ((by rw [hg]; exact Nat.ne_of_lt (blk_lt (g := gb911) (o := .cells #[.slice (some ad912) l0_0.length c0_0] 68 (0, 0)) kz) : gb911 ≠ gb913)); have n6_ := Aside0.mk ((by rw [hg]; exact Nat.ne_of_gt (blk_lt (g := gb911) (o := .cells #[.slice (some ad912) l0_0.length c0_0] 68 (0, 0)) kz) : gb913 ≠ gb911)); clear BK911; clear HB; have BK911 := n0_; have HB := n1_; have BK913 := n2_; have GW913 := n3_; have GE913 := n4_; have NB911_913 := n5_; have NB913_911 := n6_; clear n0_ n1_ n2_ n3_ n4_ n5_ n6_; clear hb hbox hg; have hnb15 := NB913_911.out; have hnc15 := NB911_913.out; have hcz16_0 : w14.cell? ⟨gb913, 0, none⟩ = some (.string (⟨#[]⟩ : ByteArray)) := (blk_cell BK913.out 0).trans rfl; have hcz16_1 : w14.cell? ⟨gb913, 1, none⟩ = some (.int .i64 0) := (blk_cell BK913.out 1).trans rfl; have hcz16_2 : w14.cell? ⟨gb913, 2, none⟩ = some (.int .i64 0) := (blk_cell BK913.out 2).trans rfl; have hcz16_3 : w14.cell? ⟨gb913, 3, none⟩ = some (.int .i64 0) := (blk_cell BK913.out 3).trans rfl; have hcz16_4 : w14.cell? ⟨gb913, 4, none⟩ = some (.slice none 0 0) := (blk_cell BK913.out 4).trans rfl; have hcz16_5 : w14.cell? ⟨gb913, 5, none⟩ = some (.int .i64 0) := (blk_cell BK913.out 5).trans rfl; have hcz16_6 : w14.cell? ⟨gb913, 6, none⟩ = some (.slice none 0 0) := (blk_cell BK913.out 6).trans rfl; have hcz16_7 : w14.cell? ⟨gb913, 7, none⟩ = some (.slice none 0 0) := (blk_cell BK913.out 7).trans rfl; have hfz16_0 := blk_frozen BK913.out 0; have hfz16_1 := blk_frozen BK913.out 1; have hfz16_2 := blk_frozen BK913.out 2; have hfz16_3 := blk_frozen BK913.out 3; have hfz16_4 := blk_frozen BK913.out 4; have hfz16_5 := blk_frozen BK913.out 5; have hfz16_6 := blk_frozen BK913.out 6; have hfz16_7 := blk_frozen BK913.out 7))
               go_ret
               exact ⟨by first | rfl | (simp [errW_none, errW_some] <;> rfl) | (simp [*, errW_none, errW_some] <;> rfl), bz⟩
             · rw [if_neg c13] at H
               have c13b0 : (((rd_T130 l0_0 x10_1).f2) == 2) = false := beq_eq_false_iff_ne.mpr c13
               have c13b1 : (((rd_T130 l0_0 x10_1).f2) != 2) = true := bne_iff_ne.mpr c13
               have H' := Aside0.mk H
               clear H
               have p912 : 0 ≤ (x10_1 : Int) := of_decide_eq_true az
               have q912 : x10_1 < (l0_0.length : Int) := of_decide_eq_true az
               obtain ⟨ad912, A912_4, c912_4, A912_6, c912_6, A912_7, c912_7, e912, hx912_0, hx912_1, hx912_2, hx912_3, hx912_4, hx912_5, hx912_6, hx912_7, hl912_4, hi912_4, hl912_6, hi912_6, hl912_7, hi912_7⟩ := at_T130 HR0_0.out x10_1 p912 q912
               cases e912
               replace hx912_0 := ck HB hx912_0
               replace hx912_1 := ck HB hx912_1
               replace hx912_2 := ck HB hx912_2
               replace hx912_3 := ck HB hx912_3
               replace hx912_4 := ck HB hx912_4
               replace hx912_5 := ck HB hx912_5
               replace hx912_6 := ck HB hx912_6
               replace hx912_7 := ck HB hx912_7
               have HR912_4 := Aside0.mk hi912_4
               have HC912_4 := Aside0.mk hl912_4
               clear hi912_4 hl912_4
               have HR912_6 := Aside0.mk hi912_6
               have HC912_6 := Aside0.mk hl912_6
               clear hi912_6 hl912_6
               have HR912_7 := Aside0.mk hi912_7
               have HC912_7 := Aside0.mk hl912_7
               clear hi912_7 hl912_7
               replace p912 := eq_true p912
               replace q912 := eq_true q912
               go_wp2_with (first | ((with_reducible refine gate_dst (N := 6) rfl ?_); refine box_event ?hg (N := 6) ?hd (cs := #[.string (⟨#[]⟩ : ByteArray), .int .i64 0, .int .i64 0, .int .i64 0, .slice none 0 0, .int .i64 0, .slice none 0 0, .slice none 0 0]) (t := 130) ?hr ?_; (case hd => rfl); (case hg => rfl); (case hr => first | (go_simp; done) | (go_simp; rfl)); intro gb913 hg w17 hbox hb; have n0_ := Aside0.mk (blk_below (g := gb911) (o := .cells #[.slice (some ad912) l0_0.length c0_0] 68 (0, 0)) kz hb); have n1_ := Aside0.mk (below_step bz hb); have n2_ := Aside0.mk (hbox); have n3_ := Aside0.mk ((by rw [hg]; exact (below_size bz) : w.heap.size ≤ gb913)); have n4_ := Aside0.mk ((by rw [hg]; exact (below_size bz) : w.heap.size ≤ gb913)); have n5_ := Aside0.mk ((by rw [hg]; exact Nat.ne_of_lt (blk_lt (g := gb911) (o := .cells #[.slice (some ad912) l0_0.length c0_0] 68 (0, 0)) kz) : gb911 ≠ gb913)); have n6_ := Aside0.mk ((by rw [hg]; exact Nat.ne_of_gt (blk_lt (g := gb911) (o := .cells #[.slice (some ad912) l0_0.length c0_0] 68 (0, 0)) kz) : gb913 ≠ gb911)); clear BK911; clear HB; have BK911 := n0_; have HB := n1_; have BK913 := n2_; have GW913 := n3_; have GE913 := n4_; have NB911_913 := n5_; have NB913_911 := n6_; clear n0_ n1_ n2_ n3_ n4_ n5_ n6_; clear hb hbox hg; have hnb18 := NB913_911.out; have hnc18 := NB911_913.out; have hcz19_0 : w17.cell? ⟨gb913, 0, none⟩ = some (.string (⟨#[]⟩ : ByteArray)) := (blk_cell BK913.out 0).trans rfl; have hcz19_1 : w17.cell? ⟨gb913, 1, none⟩ = some (.int .i64 0) := (blk_cell BK913.out 1).trans rfl; have hcz19_2 : w17.cell? ⟨gb913, 2, none⟩ = some (.int .i64 0) := (blk_cell BK913.out 2).trans rfl; have hcz19_3 : w17.cell? ⟨gb913, 3, none⟩ = some (.int .i64 0) := (blk_cell BK913.out 3).trans rfl; have hcz19_4 : w17.cell? ⟨gb913, 4, none⟩ = some (.slice none 0 0) := (blk_cell BK913.out 4).trans rfl; have hcz19_5 : w17.cell? ⟨gb913, 5, none⟩ = some (.int .i64 0) := (blk_cell BK913.out 5).trans rfl; have hcz19_6 : w17.cell? ⟨gb913, 6, none⟩ = some (.slice none 0 0) := (blk_cell BK913.out 6).trans rfl; have hcz19_7 : w17.cell? ⟨gb913, 7, none⟩ = some (.slice none 0 0) := (blk_cell BK913.out 7).trans rfl; have hfz19_0 := blk_frozen BK913.out 0; have hfz19_1 := blk_frozen BK913.out 1; have hfz19_2 := blk_frozen BK913.out 2; have hfz19_3 := blk_frozen BK913.out 3; have hfz19_4 := blk_frozen BK913.out 4; have hfz19_5 := blk_frozen BK913.out 5; have hfz19_6 := blk_frozen BK913.out 6; have hfz19_7 := blk_frozen BK913.out 7))
               go_roundg k1
               case measure => have := HK1.out; omega
               case rel => exact ⟨(wrap64 (x10_1 + 1)), sz_, H', ⟨by have := HK1.out; omega⟩, ⟨by (with_reducible repeat (first | refine blk_drewN ?_ _ | refine blk_drew ?_ | refine blk_alloc ?_ _)); refine blk_far ?_ NB911_913.out _; (with_reducible repeat (first | refine blk_drewN ?_ _ | refine blk_drew ?_ | refine blk_alloc ?_ _)); refine blk_far ?_ NB911_913.out _; (with_reducible repeat (first | refine blk_drewN ?_ _ | refine blk_drew ?_ | refine blk_alloc ?_ _)); refine blk_far ?_ NB911_913.out _; (with_reducible repeat (first | refine blk_drewN ?_ _ | refine blk_drew ?_ | refine blk_alloc ?_ _)); refine blk_far ?_ NB911_913.out _; (with_reducible repeat (first | refine blk_drewN ?_ _ | refine blk_drew ?_ | refine blk_alloc ?_ _)); refine blk_far ?_ NB911_913.out _; (with_reducible repeat (first | refine blk_drewN ?_ _ | refine blk_drew ?_ | refine blk_alloc ?_ _)); refine blk_far ?_ NB911_913.out _; (with_reducible repeat (first | refine blk_drewN ?_ _ | refine blk_drew ?_ | refine blk_alloc ?_ _)); refine blk_far ?_ NB911_913.out _; (with_reducible repeat (first | refine blk_drewN ?_ _ | refine blk_drew ?_ | refine blk_alloc ?_ _)); refine blk_far ?_ NB911_913.out _; (with_reducible repeat (first | refine blk_drewN ?_ _ | refine blk_drew ?_ | refine blk_alloc ?_ _)); exact BK911.out⟩, ⟨ bz⟩⟩
         · rw [if_neg c8] at H
           have c8b0 : (((rd_T130 l0_0 x10_1).f0).toList == a1.toList) = false := beq_eq_false_iff_ne.mpr c8
           have c8b1 : (((rd_T130 l0_0 x10_1).f0).toList != a1.toList) = true := bne_iff_ne.mpr c8
           have H' := Aside0.mk H
           clear H
           have p912 : 0 ≤ (x10_1 : Int) := of_decide_eq_true az
           have q912 : x10_1 < (l0_0.length : Int) := of_decide_eq_true az
           obtain ⟨ad912, A912_4, c912_4, A912_6, c912_6, A912_7, c912_7, e912, hx912_0, hx912_1, hx912_2, hx912_3, hx912_4, hx912_5, hx912_6, hx912_7, hl912_4, hi912_4, hl912_6, hi912_6, hl912_7, hi912_7⟩ := at_T130 HR0_0.out x10_1 p912 q912
           cases e912
           replace hx912_0 := ck HB hx912_0
           replace hx912_1 := ck HB hx912_1
           replace hx912_2 := ck HB hx912_2
           replace hx912_3 := ck HB hx912_3
           replace hx912_4 := ck HB hx912_4
           replace hx912_5 := ck HB hx912_5
           replace hx912_6 := ck HB hx912_6
           replace hx912_7 := ck HB hx912_7
           have HR912_4 := Aside0.mk hi912_4
           have HC912_4 := Aside0.mk hl912_4
           clear hi912_4 hl912_4
           have HR912_6 := Aside0.mk hi912_6
           have HC912_6 := Aside0.mk hl912_6
           clear hi912_6 hl912_6
           have HR912_7 := Aside0.mk hi912_7
           have HC912_7 := Aside0.mk hl912_7
           clear hi912_7 hl912_7
           replace p912 := eq_true p912
           replace q912 := eq_true q912
           go_wp2_with (first | ((with_reducible refine gate_dst (N := 6) rfl ?_); refine box_event ?hg (N := 6) ?hd (cs := #[.string (⟨#[]⟩ : ByteArray), .int .i64 0, .int .i64 0, .int .i64 0, .slice none 0 0, .int .i64 0, .slice none 0 0, .slice none 0 0]) (t := 130) ?hr ?_; (case hd => rfl); (case hg => rfl); (case hr => first | (go_simp; done) | (go_simp; rfl)); intro gb913 hg w20 hbox hb; have n0_ := Aside0.mk (blk_below (g := gb911) (o := .cells #[.slice (some ad912) l0_0.length c0_0] 68 (0, 0)) kz hb); have n1_ := Aside0.mk (below_step bz hb); have n2_ := Aside0.mk (hbox); have n3_ := Aside0.mk ((by rw [hg]; exact (below_size bz) : w.heap.size ≤ gb913)); have n4_ := Aside0.mk ((by rw [hg]; exact (below_size bz) : w.heap.size ≤ gb913)); have n5_ := Aside0.mk ((by rw [hg]; exact Nat.ne_of_lt (blk_lt (g := gb911) (o := .cells #[.slice (some ad912) l0_0.length c0_0] 68 (0, 0)) kz) : gb911 ≠ gb913)); have n6_ := Aside0.mk ((by rw [hg]; exact Nat.ne_of_gt (blk_lt (g := gb911) (o := .cells #[.slice (some ad912) l0_0.length c0_0] 68 (0, 0)) kz) : gb913 ≠ gb911)); clear BK911; clear HB; have BK911 := n0_; have HB := n1_; have BK913 := n2_; have GW913 := n3_; have GE913 := n4_; have NB911_913 := n5_; have NB913_911 := n6_; clear n0_ n1_ n2_ n3_ n4_ n5_ n6_; clear hb hbox hg; have hnb21 := NB913_911.out; have hnc21 := NB911_913.out; have hcz22_0 : w20.cell? ⟨gb913, 0, none⟩ = some (.string (⟨#[]⟩ : ByteArray)) := (blk_cell BK913.out 0).trans rfl; have hcz22_1 : w20.cell? ⟨gb913, 1, none⟩ = some (.int .i64 0) := (blk_cell BK913.out 1).trans rfl; have hcz22_2 : w20.cell? ⟨gb913, 2, none⟩ = some (.int .i64 0) := (blk_cell BK913.out 2).trans rfl; have hcz22_3 : w20.cell? ⟨gb913, 3, none⟩ = some (.int .i64 0) := (blk_cell BK913.out 3).trans rfl; have hcz22_4 : w20.cell? ⟨gb913, 4, none⟩ = some (.slice none 0 0) := (blk_cell BK913.out 4).trans rfl; have hcz22_5 : w20.cell? ⟨gb913, 5, none⟩ = some (.int .i64 0) := (blk_cell BK913.out 5).trans rfl; have hcz22_6 : w20.cell? ⟨gb913, 6, none⟩ = some (.slice none 0 0) := (blk_cell BK913.out 6).trans rfl; have hcz22_7 : w20.cell? ⟨gb913, 7, none⟩ = some (.slice none 0 0) := (blk_cell BK913.out 7).trans rfl; have hfz22_0 := blk_frozen BK913.out 0; have hfz22_1 := blk_frozen BK913.out 1; have hfz22_2 := blk_frozen BK913.out 2; have hfz22_3 := blk_frozen BK913.out 3; have hfz22_4 := blk_frozen BK913.out 4; have hfz22_5 := blk_frozen BK913.out 5; have hfz22_6 := blk_frozen BK913.out 6; have hfz22_7 := blk_frozen BK913.out 7))
           go_roundg k1
           case measure => have := HK1.out; omega
           case rel => exact ⟨(wrap64 (x10_1 + 1)), sz_, H', ⟨by have := HK1.out; omega⟩, ⟨by (with_reducible repeat (first | refine blk_drewN ?_ _ | refine blk_drew ?_ | refine blk_alloc ?_ _)); refine blk_far ?_ NB911_913.out _; (with_reducible repeat (first | refine blk_drewN ?_ _ | refine blk_drew ?_ | refine blk_alloc ?_ _)); refine blk_far ?_ NB911_913.out _; (with_reducible repeat (first | refine blk_drewN ?_ _ | refine blk_drew ?_ | refine blk_alloc ?_ _)); refine blk_far ?_ NB911_913.out _; (with_reducible repeat (first | refine blk_drewN ?_ _ | refine blk_drew ?_ | refine blk_alloc ?_ _)); refine blk_far ?_ NB911_913.out _; (with_reducible repeat (first | refine blk_drewN ?_ _ | refine blk_drew ?_ | refine blk_alloc ?_ _)); refine blk_far ?_ NB911_913.out _; (with_reducible repeat (first | refine blk_drewN ?_ _ | refine blk_drew ?_ | refine blk_alloc ?_ _)); refine blk_far ?_ NB911_913.out _; (with_reducible repeat (first | refine blk_drewN ?_ _ | refine blk_drew ?_ | refine blk_alloc ?_ _)); refine blk_far ?_ NB911_913.out _; (with_reducible repeat (first | refine blk_drewN ?_ _ | refine blk_drew ?_ | refine blk_alloc ?_ _)); refine blk_far ?_ NB911_913.out _; (with_reducible repeat (first | refine blk_drewN ?_ _ | refine blk_drew ?_ | refine blk_alloc ?_ _)); exact BK911.out⟩, ⟨ bz⟩⟩
       · rw [if_neg c7] at H
         exact absurd H (by simp)
     · rw [if_neg c6] at H
       exact absurd H (by simp)
   · rw [if_neg c5] at H
     have c5b0 : decide (x10_1 < (l0_0.length : Int)) = false := decide_eq_false c5
     clear c5
     obtain rfl := Option.some.inj H
     go_wp2
     go_ret
     exact ⟨by first | rfl | (simp [errW_none, errW_some] <;> rfl) | (simp [*, errW_none, errW_some] <;> rfl), bz⟩

end Go.Proofs.Ythegbhfoleiegaa.All

/- Maps of bools that a call makes: as sets of numbers. -/
namespace Go.Proofs.Ythegbhfoleiegaa.All
open Go.RowKit Go.Proofs.YthegbhfoleiegaaW.PrintWords Go.Proofs.YthegbhfoleiegaaW.PrintLast Go.Proofs.YthegbhfoleiegaaW.PrintMore
set_option linter.unusedVariables false
set_option linter.unusedSimpArgs false
open Go.Maps (Keyed)
theorem plainElem_bool_inv {H : Type} {P : Program} {e : TypeId} (he : P.underlying e = some .bool) {v : Value} {z : DataW H × List MemPlace} (h : plainElem P e v = some z) : ∃ x, v = .bool x ∧ z = (.lit (.bool x), []) := by
  unfold plainElem at h
  rw [he] at h
  cases v <;> simp at h
  exact ⟨_, rfl, h.symm⟩
/-- Block b is a map of at most n entries from int64 (type k) to bool (type e); S is what is told of a number. -/
def IsSet (P : Program) (k e : TypeId) (w : World) (b n : Nat) (S : Int → Bool) : Prop :=
  ∃ D : DataW Unit, w.ownsMap P k (plainElem P e) b n D ∧ ∀ x, (Lit.int .i64 x).wf = true → D.atKey (.int .i64 x) (.lit (.bool false)) = .lit (.bool (S x))
section
variable {P : Program} {k e : TypeId} {w w1 : World} {b n : Nat} {S : Int → Bool}
theorem IsSet.made (w : World) (P : Program) (k e : TypeId) : IsSet P k e (w.alloc (.map #[] 0)) w.heap.size 0 (fun _ => false) :=
  ⟨.map [], World.ownsMap_made w P k _, fun x _ => by simp [DataW.atKey]⟩
theorem IsSet.kept {row : Option Nat} (h : IsSet P k e w b n S) (hg : w.grownBy w1 row) (hne : some b ≠ row) : IsSet P k e w1 b n S := by
  obtain ⟨D, h1, h2⟩ := h
  exact ⟨D, h1.kept hg hne, h2⟩
theorem IsSet.below (h : IsSet P k e w b n S) (hb : Below w.heap.size w w1) : IsSet P k e w1 b n S := h.kept (grown_of_below hb none) (by simp)
theorem IsSet.alloc (h : IsSet P k e w b n S) (o : Obj) : IsSet P k e (w.alloc o) b n S := h.below (below_alloc (Below.refl _ _) o)
theorem IsSet.drewN (h : IsSet P k e w b n S) (m : Nat) : IsSet P k e (w.drewN m) b n S := h
theorem IsSet.drew (h : IsSet P k e w b n S) : IsSet P k e w.drew b n S := h
theorem IsSet.lt (h : IsSet P k e w b n S) : b < w.heap.size := by obtain ⟨D, h1, _⟩ := h; exact h1.lt
theorem IsSet.mono (h : IsSet P k e w b n S) {n' : Nat} (hn : n ≤ n') : IsSet P k e w b n' S := by obtain ⟨D, h1, h2⟩ := h; exact ⟨D, h1.mono hn, h2⟩
theorem IsSet.congr {S' : Int → Bool} (h : IsSet P k e w b n S) (he : ∀ x, S' x = S x) : IsSet P k e w b n S' := by obtain ⟨D, h1, h2⟩ := h; exact ⟨D, h1, fun x hx => by rw [he]; exact h2 x hx⟩
theorem IsSet.look {t : TypeId} (h : IsSet P k e w b n S) (hk : P.underlying k = some (.int .i64)) (ht : P.underlying t = some (.map k e)) (he : P.underlying e = some .bool) (hz : (zeroValue e).run P w = .ok (.bool false) w) {x : Int} (hx : (Lit.int .i64 x).wf = true) :
    (Instr.lookup t (.map (some b)) (.int .i64 x) false).run P w = .ok (.bool (S x)) w := by
  obtain ⟨D, h1, h2⟩ := h
  obtain ⟨v, ps, hrun, hv⟩ := h1.lookup (Maps.int_keyed hk) ht hz (plainElem_bool he false) (Maps.keyOf_int_mk hk hx)
  obtain ⟨c, rfl, hc⟩ := plainElem_bool_inv he hv
  simp only [Prod.mk.injEq] at hc
  have := h2 x hx
  rw [hc.1] at this
  injection this with this
  injection this with this
  rw [this] at hrun
  exact hrun
theorem IsSet.put {t : TypeId} (h : IsSet P k e w b n S) (hk : P.underlying k = some (.int .i64)) (ht : P.underlying t = some (.map k e)) (he : P.underlying e = some .bool) (hn : n < maxLen) {x : Int} (hx : (Lit.int .i64 x).wf = true) (v : Bool) :
    ∃ w', (Instr.mapUpdate t (.map (some b)) (.int .i64 x) (.bool v)).run P w = .ok () w' ∧ IsSet P k e w' b (n + 1) (fun y => if y = x then v else S y) ∧ w.grownBy w' (some b) := by
  obtain ⟨D, h1, h2⟩ := h
  have hm := h1.isMap
  obtain ⟨w', hrun, h3, hg⟩ := h1.update (Maps.int_keyed hk) ht hn (Maps.keyOf_int_mk hk hx) (plainElem_bool he v)
  refine ⟨w', hrun, ⟨_, h3, fun y hy => ?_⟩, hg⟩
  by_cases hxy : y = x
  · subst hxy
    rw [Maps.atKey_put_same hm (by simp [WideAt.IsKeyLit])]
    simp
  · rw [Maps.atKey_put_other (by simpa using hxy), h2 y hy]
    simp [hxy]
end
section
variable {P : Program} {ops : Array Oper} {rest : List Oper} {o : Oper} {a : Act} {Q : Exit → Act → World → Prop} {w : World}
end
end Go.Proofs.Ythegbhfoleiegaa.All

/- Maps of true alone, with whole numbers as keys, that a call makes: as lists of keys; and the loops over them. -/
namespace Go.Proofs.Ythegbhfoleiegaa.All
open Go.RowKit Go.Proofs.YthegbhfoleiegaaW.PrintWords Go.Proofs.YthegbhfoleiegaaW.PrintLast Go.Proofs.YthegbhfoleiegaaW.PrintMore
set_option linter.unusedVariables false
set_option linter.unusedSimpArgs false
open Go.Maps (Keyed)
/-- The map reads as the keys ks, each with true. -/
def KeysD (D : DataW Unit) (ks : List Int) : Prop := Maps.size D = ks.length ∧ ks.Nodup ∧ (∀ x, Maps.has D (.int .i64 x) = decide (x ∈ ks)) ∧ (∀ x ∈ ks, ∀ z, D.atKey (.int .i64 x) z = .lit (.bool true)) ∧ ∀ x ∈ ks, (Lit.int .i64 x).wf = true
def IsKeys (P : Program) (k e : TypeId) (w : World) (b : Nat) (ks : List Int) : Prop := ∃ D : DataW Unit, w.ownsMap P k (plainElem P e) b ks.length D ∧ KeysD D ks
/-- The loop over map b (iterator r) is under way; the keys lf are still to come. -/
def KRange (P : Program) (k e : TypeId) (w : World) (b r : Nat) (ks lf : List Int) : Prop :=
  ∃ (D : DataW Unit) (left : Lit → Bool) (cnt : Nat), w.ranges P k (plainElem P e) b r ks.length D left cnt ∧ KeysD D ks ∧ (∀ x, left (.int .i64 x) = decide (x ∈ lf))
def insK (ks : List Int) (x : Int) : List Int := if x ∈ ks then ks else ks ++ [x]
theorem insK_mem (ks : List Int) (x y : Int) : y ∈ insK ks x ↔ y ∈ ks ∨ y = x := by
  unfold insK; split
  · rename_i h; exact ⟨.inl, fun h' => h'.elim id (fun e => e ▸ h)⟩
  · simp
theorem insK_nodup {ks : List Int} (h : ks.Nodup) (x : Int) : (insK ks x).Nodup := by
  unfold insK; split
  · exact h
  · rename_i hn
    rw [List.nodup_append]
    exact ⟨h, by simp, fun a ha b hb => by rw [List.mem_singleton.1 hb]; rintro rfl; exact hn ha⟩
theorem insK_len (ks : List Int) (x : Int) : (insK ks x).length = if x ∈ ks then ks.length else ks.length + 1 := by unfold insK; split <;> simp
theorem int_sameKey (x y : Int) : (Lit.int .i64 y).sameKey (.int .i64 x) = decide (y = x) := by
  by_cases h : y = x
  · subst h; simp [Lit.sameKey]
  · rw [Maps.sameKey_ne (by intro e; exact h (by injection e)), decide_eq_false h]
theorem KeysD.perm {D : DataW Unit} {ks ks' : List Int} (h : KeysD D ks) (hp : ks.Perm ks') : KeysD D ks' :=
  ⟨h.1.trans hp.length_eq, hp.nodup_iff.1 h.2.1, fun x => by rw [h.2.2.1 x]; exact decide_eq_decide.2 hp.mem_iff, fun x hx => h.2.2.2.1 x (hp.mem_iff.2 hx), fun x hx => h.2.2.2.2 x (hp.mem_iff.2 hx)⟩
section
variable {P : Program} {k e : TypeId} {w w1 : World} {b r : Nat} {ks ks' lf : List Int}
theorem ownsMap_tight {R : Value → Option (DataW Unit × List MemPlace)} {n : Nat} {D : DataW Unit} (h : w.ownsMap P k R b n D) : w.ownsMap P k R b (Maps.size D) D := by
  obtain ⟨es, clock, hb, F, _, hD⟩ := h
  refine ⟨es, clock, hb, F, ?_, hD⟩
  rw [hD, Maps.size_eq, length_read]
  exact Nat.le_refl _
theorem IsKeys.nodup (h : IsKeys P k e w b ks) : ks.Nodup := by obtain ⟨_, _, h⟩ := h; exact h.2.1
theorem IsKeys.wf (h : IsKeys P k e w b ks) : ∀ x ∈ ks, (Lit.int .i64 x).wf = true := by obtain ⟨_, _, h⟩ := h; exact h.2.2.2.2
theorem IsKeys.perm (h : IsKeys P k e w b ks) (hp : ks.Perm ks') : IsKeys P k e w b ks' := by
  obtain ⟨D, h1, h2⟩ := h
  exact ⟨D, by rw [← hp.length_eq]; exact h1, h2.perm hp⟩
theorem IsKeys.same (h : IsKeys P k e w b ks) (hn : ks'.Nodup) (hm : ∀ x, x ∈ ks ↔ x ∈ ks') : IsKeys P k e w b ks' := h.perm ((List.perm_ext_iff_of_nodup h.nodup hn).2 hm)
theorem IsKeys.made (w : World) (P : Program) (k e : TypeId) : IsKeys P k e (w.alloc (.map #[] 0)) w.heap.size [] :=
  ⟨.map [], World.ownsMap_made w P k _, rfl, List.nodup_nil, (fun x => by simp [Maps.has_eq]), (fun x hx => by cases hx), (fun x hx => by cases hx)⟩
theorem IsKeys.kept {row : Option Nat} (h : IsKeys P k e w b ks) (hg : w.grownBy w1 row) (hne : some b ≠ row) : IsKeys P k e w1 b ks := by
  obtain ⟨D, h1, h2⟩ := h
  exact ⟨D, h1.kept hg hne, h2⟩
theorem IsKeys.below (h : IsKeys P k e w b ks) (hb : Below w.heap.size w w1) : IsKeys P k e w1 b ks := h.kept (grown_of_below hb none) (by simp)
theorem IsKeys.alloc (h : IsKeys P k e w b ks) (o : Obj) : IsKeys P k e (w.alloc o) b ks := h.below (below_alloc (Below.refl _ _) o)
theorem IsKeys.drewN (h : IsKeys P k e w b ks) (m : Nat) : IsKeys P k e (w.drewN m) b ks := h
theorem IsKeys.drew (h : IsKeys P k e w b ks) : IsKeys P k e w.drew b ks := h
theorem IsKeys.lt (h : IsKeys P k e w b ks) : b < w.heap.size := by obtain ⟨D, h1, _⟩ := h; exact h1.lt
theorem KRange.keys (h : KRange P k e w b r ks lf) : IsKeys P k e w b ks := by obtain ⟨D, _, _, h1, h2, _⟩ := h; exact ⟨D, h1.owns, h2⟩
theorem KRange.kept {row : Option Nat} (h : KRange P k e w b r ks lf) (hg : w.grownBy w1 row) (hb : some b ≠ row) (hr : some r ≠ row) : KRange P k e w1 b r ks lf := by
  obtain ⟨D, left, cnt, h1, h2, h3⟩ := h
  exact ⟨D, left, cnt, h1.kept hg hb hr, h2, h3⟩
theorem KRange.left_kept {row : Option Nat} (h : KRange P k e w b r ks lf) (hg : w.grownBy w1 row) (hb : some b ≠ row) (hr : some r ≠ row) : w1.rangeLeft b r = w.rangeLeft b r := by
  obtain ⟨D, left, cnt, h1, h2, h3⟩ := h
  rw [(h1.kept hg hb hr).left_eq, h1.left_eq]
theorem KRange.lt (h : KRange P k e w b r ks lf) : r < w.heap.size := by obtain ⟨D, _, _, h1, _⟩ := h; exact h1.lt
end
section
variable {P : Program} {ops : Array Oper} {rest : List Oper} {o : Oper} {a : Act} {Q : Exit → Act → World → Prop} {w : World}
theorem wpList_range_keys (hg : o.guard = none) (m : Operand) (t : TypeId) (hop : o.op = Op.range t m) (k e : TypeId) (K : Keyed P k) (ht : P.underlying t = some (.map k e)) (b : Nat) (ks : List Int)
    (hm : a.eval m = .map (some b)) (h : IsKeys P k e w b ks)
    (hK : ∀ w', KRange P k e w' b w.heap.size ks ks → w.grownBy w' none → w'.heap.size = w.heap.size + 1 → wpList P ops Q rest (a.put o.dst (.pointer (some ⟨w.heap.size, 0, none⟩))) w') :
    wpList P ops Q (o :: rest) a w := by
  obtain ⟨D, h1, h2⟩ := h
  exact wpList_range_own w hg m t hop k e K ht _ b _ D hm h1 (fun w' hr hg hs => hK w' ⟨D, _, _, hr, h2, h2.2.2.1⟩ hg hs)
theorem IsKeys.range {P : Program} {k e : TypeId} {w : World} {b : Nat} {ks : List Int} (h : IsKeys P k e w b ks) (K : Keyed P k) {t : TypeId} (ht : P.underlying t = some (.map k e)) :
    ∃ w', (Instr.range t (.map (some b))).run P w = .ok (.pointer (some ⟨w.heap.size, 0, none⟩)) w' ∧ KRange P k e w' b w.heap.size ks ks ∧ w.grownBy w' none ∧ w'.heap.size = w.heap.size + 1 := by
  obtain ⟨D, h1, h2⟩ := h
  obtain ⟨w', hrun, r1, r2, r3⟩ := h1.range K ht
  exact ⟨w', hrun, ⟨D, _, _, r1, h2, h2.2.2.1⟩, r2, r3⟩
theorem wpList_next_keys (hg : o.guard = none) (it : Operand) (hop : o.op = Op.next it false) (k e : TypeId) (K : Keyed P k) (hk : P.underlying k = some (.int .i64)) (he : P.underlying e = some .bool)
    (b r : Nat) (ks lf : List Int) (hit : a.eval it = .pointer (some ⟨r, 0, none⟩)) (h : KRange P k e w b r ks lf) (hsub : ∀ x ∈ lf, x ∈ ks)
    (hDone : lf = [] → wpList P ops Q rest (a.put o.dst (.tuple #[.bool false])) w)
    (hMore : ∀ (x : Int) (w' : World), (Lit.int .i64 x).wf = true → x ∈ lf → KRange P k e w' b r ks (lf.filter fun y => !decide (y = x)) → w'.rangeLeft b r < w.rangeLeft b r →
      w.grownBy w' (some r) → w'.heap.size = w.heap.size → (Instr.entry (.pointer (some ⟨r, 0, none⟩))).run P w' = .ok (.tuple #[.int .i64 x, .bool true]) w' → wpList P ops Q rest (a.put o.dst (.tuple #[.bool true, .int .i64 x, .bool true])) w') :
    wpList P ops Q (o :: rest) a w := by
  obtain ⟨D, left, cnt, h1, h2, h3⟩ := h
  refine wpList_next_ranges w hg it hop k K (plainElem P e) (Value.int .i64) Value.bool (fun key kl hkey => by obtain ⟨x, rfl, _⟩ := Maps.keyOf_int_inv hk hkey; exact ⟨x, rfl⟩) (fun v y hv => by obtain ⟨c, rfl, _⟩ := plainElem_bool_inv he hv; exact ⟨c, rfl⟩)
    b r _ D left cnt hit h1 (fun _ hl => hDone ?_) (fun x c kl y w' cnt' hkey hlk hv hat hrg hlt hgr hsz hen => ?_)
  · refine List.eq_nil_iff_forall_not_mem.2 fun x hx => ?_
    have := h3 x
    rw [hl, decide_eq_true hx] at this
    cases this
  · obtain ⟨x', ex, rfl, hwx⟩ := Maps.keyOf_int_inv hk hkey
    cases ex
    obtain ⟨c', ec, rfl⟩ := plainElem_bool_inv he hv
    cases ec
    have hx : x ∈ lf := by rw [h3 x] at hlk; exact of_decide_eq_true hlk
    have hc : c = true := by
      have e1 := hat (.lit (.bool false))
      rw [h2.2.2.2.1 x (hsub x hx)] at e1
      injection e1 with e1
      injection e1 with e1
      exact e1.symm
    subst hc
    refine hMore x w' hwx hx ⟨D, _, cnt', hrg, h2, fun z => ?_⟩ (by rw [hrg.left_eq, h1.left_eq]; exact hlt) hgr hsz hen
    rw [h3 z, int_sameKey]
    by_cases h4 : z ∈ lf <;> by_cases h5 : z = x <;> simp [h4, h5]
theorem wpList_put_keys (hg : o.guard = none) (m x v : Operand) (t : TypeId) (hop : o.op = Op.mapUpdate t m x v) (k e : TypeId) (K : Keyed P k) (hk : P.underlying k = some (.int .i64)) (ht : P.underlying t = some (.map k e)) (he : P.underlying e = some .bool)
    (b : Nat) (ks : List Int) (hm : a.eval m = .map (some b)) (h : IsKeys P k e w b ks) (hn : ks.length < maxLen) (y : Int) (hx : a.eval x = .int .i64 y) (hv : a.eval v = .bool true) (hw : (Lit.int .i64 y).wf = true)
    (hK : ∀ w', IsKeys P k e w' b (insK ks y) → w.grownBy w' (some b) → wpList P ops Q rest (a.put o.dst undef) w') : wpList P ops Q (o :: rest) a w := by
  obtain ⟨D, h1, h2⟩ := h
  have hkey := K.key (Maps.keyOf_int_mk hk hw)
  have hsz : Maps.size (D.put (.int .i64 y) (.lit (.bool true))) = (insK ks y).length := by
    rw [Maps.size_put (h1.tidy K), h2.2.2.1 y, h2.1, insK_len]
    by_cases hy : y ∈ ks <;> simp [hy]
  refine wpList_mapUpdate_own w hg m x v t hop k e K ht _ b _ D hm h1 hn _ _ _ hx hv (Maps.keyOf_int_mk hk hw) (.lit (.bool true)) [] (plainElem_bool he true) (fun w' h3 h4 => hK w' ⟨D.put (.int .i64 y) (.lit (.bool true)), ?_, ?_⟩ h4)
  · rw [← hsz]; exact ownsMap_tight h3
  · refine ⟨hsz, insK_nodup h2.2.1 y, fun z => ?_, fun z hz u => ?_, fun z hz => ?_⟩
    · by_cases hzy : z = y
      · subst hzy
        rw [Maps.has_put_same h1.isMap hkey]
        exact (decide_eq_true ((insK_mem _ _ _).2 (.inr rfl))).symm
      · rw [Maps.has_put_other (by intro e; exact hzy (by injection e)), h2.2.2.1 z]
        exact decide_eq_decide.2 ⟨fun h' => (insK_mem _ _ _).2 (.inl h'), fun h' => ((insK_mem _ _ _).1 h').elim id (fun e => absurd e hzy)⟩
    · by_cases hzy : z = y
      · subst hzy
        exact Maps.atKey_put_same h1.isMap hkey _ _
      · rw [Maps.atKey_put_other (by intro e; exact hzy (by injection e))]
        exact h2.2.2.2.1 z (((insK_mem _ _ _).1 hz).elim id (fun e => absurd e hzy)) u
    · rcases (insK_mem _ _ _).1 hz with h' | rfl
      · exact h2.2.2.2.2 z h'
      · exact hw
end
theorem nodup_sub_len : ∀ (a b : List Int), a.Nodup → (∀ x ∈ a, x ∈ b) → a.length ≤ b.length
  | [], _, _, _ => Nat.zero_le _
  | x :: a, b, h, hs => by
    rw [List.nodup_cons] at h
    have hx : x ∈ b := hs x (by simp)
    have := nodup_sub_len a (b.erase x) h.2 (fun z hz => (List.mem_erase_of_ne (fun e => h.1 (by subst e; exact hz))).2 (hs z (by simp [hz])))
    rw [List.length_erase_of_mem hx] at this
    have hpos : 0 < b.length := List.length_pos_of_mem hx
    rw [List.length_cons]
    omega
theorem belowG {w W w' : World} {row : Option Nat} (h : Below w.heap.size w W) (hg : W.grownBy w' row) (hr : ∀ k, row = some k → w.heap.size ≤ k) : Below w.heap.size w w' := h.grown hg h.size hr
end Go.Proofs.Ythegbhfoleiegaa.All

/- Maps of true alone, with strings as keys, that a call makes: as lists of keys; and the loops over them. -/
namespace Go.Proofs.Ythegbhfoleiegaa.All
open Go.RowKit Go.Proofs.YthegbhfoleiegaaW.PrintWords Go.Proofs.YthegbhfoleiegaaW.PrintLast Go.Proofs.YthegbhfoleiegaaW.PrintMore
set_option linter.unusedVariables false
set_option linter.unusedSimpArgs false
open Go.Maps (Keyed)
instance decBytes : DecidableEq ByteArray := fun a b => if h : a.data = b.data then .isTrue (ByteArray.ext h) else .isFalse (fun e => h (by rw [e]))
instance decMemB (x : ByteArray) (ks : List ByteArray) : Decidable (x ∈ ks) := @List.instDecidableMemOfLawfulBEq ByteArray instBEqOfDecidableEq inferInstance x ks
def SL (x : ByteArray) : Lit := .string x.data.toList
theorem SL_inj {x y : ByteArray} (h : SL x = SL y) : x = y := by
  unfold SL at h
  injection h with h
  exact ByteArray.ext (Array.toList_inj.1 h)
theorem keyS_mk {P : Program} {k : TypeId} (hk : P.underlying k = some .string) {s : ByteArray} (hs : s.size ≤ maxLen) : keyOf P k (.string s) = some (SL s) := WideMaps.keyOf_string_mk hk hs
theorem keyS_inv {P : Program} {k : TypeId} (hk : P.underlying k = some .string) {key : Value} {kl : Lit} (h : keyOf P k key = some kl) : ∃ s : ByteArray, key = .string s ∧ kl = SL s ∧ s.size ≤ maxLen := by
  cases key <;> simp [keyOf, hk, mapKey] at h
  rename_i s
  obtain ⟨hs, rfl⟩ := h
  exact ⟨s, rfl, rfl, hs⟩
/-- The map reads as the keys ks, each with true. -/
def KeysDS (D : DataW Unit) (ks : List ByteArray) : Prop := Maps.size D = ks.length ∧ ks.Nodup ∧ (∀ x, Maps.has D (SL x) = decide (x ∈ ks)) ∧ (∀ x ∈ ks, ∀ z, D.atKey (SL x) z = .lit (.bool true)) ∧ ∀ x ∈ ks, x.size ≤ maxLen
def IsKeysS (P : Program) (k e : TypeId) (w : World) (b : Nat) (ks : List ByteArray) : Prop := ∃ D : DataW Unit, w.ownsMap P k (plainElem P e) b ks.length D ∧ KeysDS D ks
/-- The loop over map b (iterator r) is under way; the keys lf are still to come. -/
def KRangeS (P : Program) (k e : TypeId) (w : World) (b r : Nat) (ks lf : List ByteArray) : Prop :=
  ∃ (D : DataW Unit) (left : Lit → Bool) (cnt : Nat), w.ranges P k (plainElem P e) b r ks.length D left cnt ∧ KeysDS D ks ∧ (∀ x, left (SL x) = decide (x ∈ lf))
def insS (ks : List ByteArray) (x : ByteArray) : List ByteArray := if x ∈ ks then ks else ks ++ [x]
theorem insS_mem (ks : List ByteArray) (x y : ByteArray) : y ∈ insS ks x ↔ y ∈ ks ∨ y = x := by
  unfold insS; split
  · rename_i h; exact ⟨.inl, fun h' => h'.elim id (fun e => e ▸ h)⟩
  · simp
theorem insS_nodup {ks : List ByteArray} (h : ks.Nodup) (x : ByteArray) : (insS ks x).Nodup := by
  unfold insS; split
  · exact h
  · rename_i hn
    rw [List.nodup_append]
    exact ⟨h, by simp, fun a ha b hb => by rw [List.mem_singleton.1 hb]; rintro rfl; exact hn ha⟩
theorem insS_len (ks : List ByteArray) (x : ByteArray) : (insS ks x).length = if x ∈ ks then ks.length else ks.length + 1 := by unfold insS; split <;> simp
theorem insS_le (ks : List ByteArray) (x : ByteArray) : (insS ks x).length ≤ ks.length + 1 := by rw [insS_len]; split <;> omega
theorem str_sameKey (x y : ByteArray) : (SL y).sameKey (SL x) = decide (y = x) := by
  by_cases h : y = x
  · subst h; rw [decide_eq_true rfl]; simp [SL, Lit.sameKey]
  · rw [Maps.sameKey_ne (fun e => h (SL_inj e)), decide_eq_false h]
theorem KeysDS.perm {D : DataW Unit} {ks ks' : List ByteArray} (h : KeysDS D ks) (hp : ks.Perm ks') : KeysDS D ks' :=
  ⟨h.1.trans hp.length_eq, hp.nodup_iff.1 h.2.1, fun x => by rw [h.2.2.1 x]; exact decide_eq_decide.2 hp.mem_iff, fun x hx => h.2.2.2.1 x (hp.mem_iff.2 hx), fun x hx => h.2.2.2.2 x (hp.mem_iff.2 hx)⟩
section
variable {P : Program} {k e : TypeId} {w w1 : World} {b r : Nat} {ks ks' lf : List ByteArray}
theorem ownsMap_tightS {R : Value → Option (DataW Unit × List MemPlace)} {n : Nat} {D : DataW Unit} (h : w.ownsMap P k R b n D) : w.ownsMap P k R b (Maps.size D) D := by
  obtain ⟨es, clock, hb, F, _, hD⟩ := h
  refine ⟨es, clock, hb, F, ?_, hD⟩
  rw [hD, Maps.size_eq, length_read]
  exact Nat.le_refl _
theorem IsKeysS.nodup (h : IsKeysS P k e w b ks) : ks.Nodup := by obtain ⟨_, _, h⟩ := h; exact h.2.1
theorem IsKeysS.wf (h : IsKeysS P k e w b ks) : ∀ x ∈ ks, x.size ≤ maxLen := by obtain ⟨_, _, h⟩ := h; exact h.2.2.2.2
theorem IsKeysS.perm (h : IsKeysS P k e w b ks) (hp : ks.Perm ks') : IsKeysS P k e w b ks' := by
  obtain ⟨D, h1, h2⟩ := h
  exact ⟨D, by rw [← hp.length_eq]; exact h1, h2.perm hp⟩
theorem IsKeysS.same (h : IsKeysS P k e w b ks) (hn : ks'.Nodup) (hm : ∀ x, x ∈ ks ↔ x ∈ ks') : IsKeysS P k e w b ks' := h.perm ((List.perm_ext_iff_of_nodup h.nodup hn).2 hm)
theorem IsKeysS.made (w : World) (P : Program) (k e : TypeId) : IsKeysS P k e (w.alloc (.map #[] 0)) w.heap.size [] :=
  ⟨.map [], World.ownsMap_made w P k _, rfl, List.nodup_nil, (fun x => by simp [Maps.has_eq]), (fun x hx => by cases hx), (fun x hx => by cases hx)⟩
theorem IsKeysS.kept {row : Option Nat} (h : IsKeysS P k e w b ks) (hg : w.grownBy w1 row) (hne : some b ≠ row) : IsKeysS P k e w1 b ks := by
  obtain ⟨D, h1, h2⟩ := h
  exact ⟨D, h1.kept hg hne, h2⟩
theorem IsKeysS.below (h : IsKeysS P k e w b ks) (hb : Below w.heap.size w w1) : IsKeysS P k e w1 b ks := h.kept (grown_of_below hb none) (by simp)
theorem IsKeysS.alloc (h : IsKeysS P k e w b ks) (o : Obj) : IsKeysS P k e (w.alloc o) b ks := h.below (below_alloc (Below.refl _ _) o)
theorem IsKeysS.drewN (h : IsKeysS P k e w b ks) (m : Nat) : IsKeysS P k e (w.drewN m) b ks := h
theorem IsKeysS.drew (h : IsKeysS P k e w b ks) : IsKeysS P k e w.drew b ks := h
theorem IsKeysS.lt (h : IsKeysS P k e w b ks) : b < w.heap.size := by obtain ⟨D, h1, _⟩ := h; exact h1.lt
theorem KRangeS.keys (h : KRangeS P k e w b r ks lf) : IsKeysS P k e w b ks := by obtain ⟨D, _, _, h1, h2, _⟩ := h; exact ⟨D, h1.owns, h2⟩
theorem KRangeS.kept {row : Option Nat} (h : KRangeS P k e w b r ks lf) (hg : w.grownBy w1 row) (hb : some b ≠ row) (hr : some r ≠ row) : KRangeS P k e w1 b r ks lf := by
  obtain ⟨D, left, cnt, h1, h2, h3⟩ := h
  exact ⟨D, left, cnt, h1.kept hg hb hr, h2, h3⟩
theorem KRangeS.left_kept {row : Option Nat} (h : KRangeS P k e w b r ks lf) (hg : w.grownBy w1 row) (hb : some b ≠ row) (hr : some r ≠ row) : w1.rangeLeft b r = w.rangeLeft b r := by
  obtain ⟨D, left, cnt, h1, h2, h3⟩ := h
  rw [(h1.kept hg hb hr).left_eq, h1.left_eq]
theorem KRangeS.lt (h : KRangeS P k e w b r ks lf) : r < w.heap.size := by obtain ⟨D, _, _, h1, _⟩ := h; exact h1.lt
end
theorem filter_len_in : ∀ (ks : List ByteArray) (y : ByteArray), ks.Nodup → y ∈ ks → (ks.filter fun z => !decide (z = y)).length + 1 = ks.length
  | [], _, _, h => by cases h
  | a :: ks, y, hn, h => by
    rw [List.nodup_cons] at hn
    by_cases e : a = y
    · subst e
      rw [List.filter_cons_of_neg (by simp), List.filter_eq_self.2 (fun z hz => by simp; rintro rfl; exact hn.1 hz)]
      rfl
    · rw [List.filter_cons_of_pos (by simp [e]), List.length_cons, List.length_cons, filter_len_in ks y hn.2 ((List.mem_cons.1 h).resolve_left (fun h => e h.symm))]
section
variable {P : Program} {ops : Array Oper} {rest : List Oper} {o : Oper} {a : Act} {Q : Exit → Act → World → Prop} {w : World}
theorem wpList_range_keysS (hg : o.guard = none) (m : Operand) (t : TypeId) (hop : o.op = Op.range t m) (k e : TypeId) (K : Keyed P k) (ht : P.underlying t = some (.map k e)) (b : Nat) (ks : List ByteArray)
    (hm : a.eval m = .map (some b)) (h : IsKeysS P k e w b ks)
    (hK : ∀ w', KRangeS P k e w' b w.heap.size ks ks → w.grownBy w' none → w'.heap.size = w.heap.size + 1 → wpList P ops Q rest (a.put o.dst (.pointer (some ⟨w.heap.size, 0, none⟩))) w') :
    wpList P ops Q (o :: rest) a w := by
  obtain ⟨D, h1, h2⟩ := h
  exact wpList_range_own w hg m t hop k e K ht _ b _ D hm h1 (fun w' hr hg hs => hK w' ⟨D, _, _, hr, h2, h2.2.2.1⟩ hg hs)
theorem IsKeysS.range {P : Program} {k e : TypeId} {w : World} {b : Nat} {ks : List ByteArray} (h : IsKeysS P k e w b ks) (K : Keyed P k) {t : TypeId} (ht : P.underlying t = some (.map k e)) :
    ∃ w', (Instr.range t (.map (some b))).run P w = .ok (.pointer (some ⟨w.heap.size, 0, none⟩)) w' ∧ KRangeS P k e w' b w.heap.size ks ks ∧ w.grownBy w' none ∧ w'.heap.size = w.heap.size + 1 := by
  obtain ⟨D, h1, h2⟩ := h
  obtain ⟨w', hrun, r1, r2, r3⟩ := h1.range K ht
  exact ⟨w', hrun, ⟨D, _, _, r1, h2, h2.2.2.1⟩, r2, r3⟩
theorem wpList_next_keysS (hg : o.guard = none) (it : Operand) (hop : o.op = Op.next it false) (k e : TypeId) (K : Keyed P k) (hk : P.underlying k = some .string) (he : P.underlying e = some .bool)
    (b r : Nat) (ks lf : List ByteArray) (hit : a.eval it = .pointer (some ⟨r, 0, none⟩)) (h : KRangeS P k e w b r ks lf) (hsub : ∀ x ∈ lf, x ∈ ks)
    (hDone : lf = [] → wpList P ops Q rest (a.put o.dst (.tuple #[.bool false])) w)
    (hMore : ∀ (x : ByteArray) (w' : World), x.size ≤ maxLen → x ∈ lf → KRangeS P k e w' b r ks (lf.filter fun y => !decide (y = x)) → w'.rangeLeft b r < w.rangeLeft b r →
      w.grownBy w' (some r) → w'.heap.size = w.heap.size → (Instr.entry (.pointer (some ⟨r, 0, none⟩))).run P w' = .ok (.tuple #[.string x, .bool true]) w' → wpList P ops Q rest (a.put o.dst (.tuple #[.bool true, .string x, .bool true])) w') :
    wpList P ops Q (o :: rest) a w := by
  obtain ⟨D, left, cnt, h1, h2, h3⟩ := h
  refine wpList_next_ranges w hg it hop k K (plainElem P e) Value.string Value.bool (fun key kl hkey => by obtain ⟨x, rfl, _⟩ := keyS_inv hk hkey; exact ⟨x, rfl⟩) (fun v y hv => by obtain ⟨c, rfl, _⟩ := plainElem_bool_inv he hv; exact ⟨c, rfl⟩)
    b r _ D left cnt hit h1 (fun _ hl => hDone ?_) (fun x c kl y w' cnt' hkey hlk hv hat hrg hlt hgr hsz hen => ?_)
  · refine List.eq_nil_iff_forall_not_mem.2 fun x hx => ?_
    have := h3 x
    rw [hl, decide_eq_true hx] at this
    cases this
  · obtain ⟨x', ex, rfl, hwx⟩ := keyS_inv hk hkey
    cases ex
    obtain ⟨c', ec, rfl⟩ := plainElem_bool_inv he hv
    cases ec
    have hx : x ∈ lf := by rw [h3 x] at hlk; exact of_decide_eq_true hlk
    have hc : c = true := by
      have e1 := hat (.lit (.bool false))
      rw [h2.2.2.2.1 x (hsub x hx)] at e1
      injection e1 with e1
      injection e1 with e1
      exact e1.symm
    subst hc
    refine hMore x w' hwx hx ⟨D, _, cnt', hrg, h2, fun z => ?_⟩ (by rw [hrg.left_eq, h1.left_eq]; exact hlt) hgr hsz hen
    rw [h3 z, str_sameKey]
    by_cases h4 : z ∈ lf <;> by_cases h5 : z = x <;> simp [h4, h5]
theorem wpList_put_keysS (hg : o.guard = none) (m x v : Operand) (t : TypeId) (hop : o.op = Op.mapUpdate t m x v) (k e : TypeId) (K : Keyed P k) (hk : P.underlying k = some .string) (ht : P.underlying t = some (.map k e)) (he : P.underlying e = some .bool)
    (b : Nat) (ks : List ByteArray) (hm : a.eval m = .map (some b)) (h : IsKeysS P k e w b ks) (hn : ks.length < maxLen) (y : ByteArray) (hx : a.eval x = .string y) (hv : a.eval v = .bool true) (hw : y.size ≤ maxLen)
    (hK : ∀ w', IsKeysS P k e w' b (insS ks y) → w.grownBy w' (some b) → wpList P ops Q rest (a.put o.dst undef) w') : wpList P ops Q (o :: rest) a w := by
  obtain ⟨D, h1, h2⟩ := h
  have hkey := K.key (keyS_mk hk hw)
  have hsz : Maps.size (D.put (SL y) (.lit (.bool true))) = (insS ks y).length := by
    rw [Maps.size_put (h1.tidy K), h2.2.2.1 y, h2.1, insS_len]
    by_cases hy : y ∈ ks <;> simp [hy]
  refine wpList_mapUpdate_own w hg m x v t hop k e K ht _ b _ D hm h1 hn _ _ _ hx hv (keyS_mk hk hw) (.lit (.bool true)) [] (plainElem_bool he true) (fun w' h3 h4 => hK w' ⟨D.put (SL y) (.lit (.bool true)), ?_, ?_⟩ h4)
  · rw [← hsz]; exact ownsMap_tightS h3
  · refine ⟨hsz, insS_nodup h2.2.1 y, fun z => ?_, fun z hz u => ?_, fun z hz => ?_⟩
    · by_cases hzy : z = y
      · subst hzy
        rw [Maps.has_put_same h1.isMap hkey]
        exact (decide_eq_true ((insS_mem _ _ _).2 (.inr rfl))).symm
      · rw [Maps.has_put_other (by intro e; exact hzy (SL_inj e)), h2.2.2.1 z]
        exact decide_eq_decide.2 ⟨fun h' => (insS_mem _ _ _).2 (.inl h'), fun h' => ((insS_mem _ _ _).1 h').elim id (fun e => absurd e hzy)⟩
    · by_cases hzy : z = y
      · subst hzy
        exact Maps.atKey_put_same h1.isMap hkey _ _
      · rw [Maps.atKey_put_other (by intro e; exact hzy (SL_inj e))]
        exact h2.2.2.2.1 z (((insS_mem _ _ _).1 hz).elim id (fun e => absurd e hzy)) u
    · rcases (insS_mem _ _ _).1 hz with h' | rfl
      · exact h2.2.2.2.2 z h'
      · exact hw
theorem wpList_del_krangeS (hg : o.guard = none) (m x : Operand) (t k : TypeId) (hop : o.op = Op.call { callee := Callee.builtin Builtin.delete, args := #[m, x], argTypes := #[t, k] })
    (e : TypeId) (K : Keyed P k) (hk : P.underlying k = some .string) (ht : P.underlying t = some (.map k e)) (b r : Nat) (ks lf : List ByteArray) (hm : a.eval m = .map (some b)) (h : KRangeS P k e w b r ks lf) (y : ByteArray) (hx : a.eval x = .string y) (hw : y.size ≤ maxLen)
    (hK : ∀ w', KRangeS P k e w' b r (ks.filter fun z => !decide (z = y)) (lf.filter fun z => !decide (z = y)) → w'.rangeLeft b r ≤ w.rangeLeft b r → w.grownBy w' (some b) → wpList P ops Q rest (a.put o.dst (.tuple #[])) w') :
    wpList P ops Q (o :: rest) a w := by
  obtain ⟨D, left, cnt, h1, h2, h3⟩ := h
  refine wpList_delete_ranges w hg m x t k hop e K ht _ b r _ D left cnt hm h1 _ _ hx (keyS_mk hk hw) (fun w' cnt' h4 hle ht' => hK w' ?_ (by rw [h4.left_eq, h1.left_eq]; exact hle) ht'.grown)
  have hsz : Maps.size (D.del (SL y)) = (ks.filter fun z => !decide (z = y)).length := by
    have e1 := Maps.size_del (k := SL y) (h1.owns.tidy K)
    rw [h2.2.2.1 y, h2.1] at e1
    by_cases hy : y ∈ ks
    · rw [decide_eq_true hy, if_pos rfl] at e1
      have e2 := filter_len_in ks y h2.2.1 hy
      omega
    · rw [decide_eq_false hy] at e1
      rw [List.filter_eq_self.2 (fun z hz => by simp; rintro rfl; exact hy hz)]
      simpa using e1
  refine ⟨D.del (SL y), (fun z => left z && !z.sameKey (SL y)), cnt', ?_, ⟨hsz, h2.2.1.filter _, fun z => ?_, fun z hz u => ?_, fun z hz => h2.2.2.2.2 z (List.mem_filter.1 hz).1⟩, fun z => ?_⟩
  · obtain ⟨es, clock, since, seen, c0, q1, q2, q3, q4, q5⟩ := h4
    refine ⟨es, clock, since, seen, c0, q1, q2, ?_, q4, q5⟩
    rw [← hsz, q4, Maps.size_eq, length_read]
    exact Nat.le_refl _
  · by_cases hzy : z = y
    · subst hzy; rw [Maps.has_del_same]; simp
    · rw [Maps.has_del_other (by intro e; exact hzy (SL_inj e)), h2.2.2.1 z]
      exact decide_eq_decide.2 (by simp [List.mem_filter, hzy])
  · have hzy : z ≠ y := by simpa using (List.mem_filter.1 hz).2
    rw [Maps.atKey_del_other (by intro e; exact hzy (SL_inj e))]
    exact h2.2.2.2.1 z (List.mem_filter.1 hz).1 u
  · show (left (SL z) && !(SL z).sameKey (SL y)) = _
    rw [h3 z, str_sameKey]
    by_cases h4 : z ∈ lf <;> by_cases h5 : z = y <;> simp [h4, h5]
end
section
variable {P : Program} {k e : TypeId} {w w1 : World} {b : Nat} {ks : List ByteArray}
theorem IsKeysS.look {t : TypeId} (h : IsKeysS P k e w b ks) (K : Keyed P k) (hk : P.underlying k = some .string) (ht : P.underlying t = some (.map k e)) (he : P.underlying e = some .bool) (hz : (zeroValue e).run P w = .ok (.bool false) w) {x : ByteArray} (hx : x.size ≤ maxLen) :
    (Instr.lookup t (.map (some b)) (.string x) false).run P w = .ok (.bool (decide (x ∈ ks))) w := by
  obtain ⟨D, h1, h2⟩ := h
  obtain ⟨v, ps, hrun, hv⟩ := h1.lookup K ht hz (plainElem_bool he false) (keyS_mk hk hx)
  obtain ⟨c, rfl, hc⟩ := plainElem_bool_inv he hv
  simp only [Prod.mk.injEq] at hc
  have hc1 := hc.1
  by_cases hx2 : x ∈ ks
  · rw [h2.2.2.2.1 x hx2] at hc1
    injection hc1 with hc1
    injection hc1 with hc1
    subst hc1
    rw [decide_eq_true hx2]
    exact hrun
  · rw [Maps.atKey_of_not_has (by rw [h2.2.2.1 x, decide_eq_false hx2])] at hc1
    injection hc1 with hc1
    injection hc1 with hc1
    subst hc1
    rw [decide_eq_false hx2]
    exact hrun
theorem IsKeys.look {ks : List Int} {t : TypeId} (h : IsKeys P k e w b ks) (K : Keyed P k) (hk : P.underlying k = some (.int .i64)) (ht : P.underlying t = some (.map k e)) (he : P.underlying e = some .bool) (hz : (zeroValue e).run P w = .ok (.bool false) w) {x : Int} (hx : (Lit.int .i64 x).wf = true) :
    (Instr.lookup t (.map (some b)) (.int .i64 x) false).run P w = .ok (.bool (decide (x ∈ ks))) w := by
  obtain ⟨D, h1, h2⟩ := h
  obtain ⟨v, ps, hrun, hv⟩ := h1.lookup K ht hz (plainElem_bool he false) (Maps.keyOf_int_mk hk hx)
  obtain ⟨c, rfl, hc⟩ := plainElem_bool_inv he hv
  simp only [Prod.mk.injEq] at hc
  have hc1 := hc.1
  by_cases hx2 : x ∈ ks
  · rw [h2.2.2.2.1 x hx2] at hc1
    injection hc1 with hc1
    injection hc1 with hc1
    subst hc1
    rw [decide_eq_true hx2]
    exact hrun
  · rw [Maps.atKey_of_not_has (by rw [h2.2.2.1 x, decide_eq_false hx2])] at hc1
    injection hc1 with hc1
    injection hc1 with hc1
    subst hc1
    rw [decide_eq_false hx2]
    exact hrun
end
section
variable {P : Program} {ops : Array Oper} {rest : List Oper} {o : Oper} {a : Act} {Q : Exit → Act → World → Prop} {w : World}
theorem wpList_look_keysS (hg : o.guard = none) (m x : Operand) (t : TypeId) (hop : o.op = Op.lookup t m x false) (k e : TypeId) (K : Keyed P k) (hk : P.underlying k = some .string) (ht : P.underlying t = some (.map k e)) (he : P.underlying e = some .bool)
    (hz : (zeroValue e).run P w = .ok (.bool false) w) (b : Nat) (ks : List ByteArray) (hm : a.eval m = .map (some b)) (hs : IsKeysS P k e w b ks) (y : ByteArray) (hx : a.eval x = .string y) (hw : y.size ≤ maxLen)
    (hK : wpList P ops Q rest (a.put o.dst (.bool (decide (y ∈ ks)))) w) : wpList P ops Q (o :: rest) a w := by
  refine wpList_plain hg fun K' hK' => ?_
  have hrun := hs.look K hk ht he hz hw
  unfold Oper.wp
  simp [execOp, hop, hm, hx, hrun, Result.andThen]
  exact hK' _ _ hK
theorem wpList_look_keys (hg : o.guard = none) (m x : Operand) (t : TypeId) (hop : o.op = Op.lookup t m x false) (k e : TypeId) (K : Keyed P k) (hk : P.underlying k = some (.int .i64)) (ht : P.underlying t = some (.map k e)) (he : P.underlying e = some .bool)
    (hz : (zeroValue e).run P w = .ok (.bool false) w) (b : Nat) (ks : List Int) (hm : a.eval m = .map (some b)) (hs : IsKeys P k e w b ks) (y : Int) (hx : a.eval x = .int .i64 y) (hw : (Lit.int .i64 y).wf = true)
    (hK : wpList P ops Q rest (a.put o.dst (.bool (decide (y ∈ ks)))) w) : wpList P ops Q (o :: rest) a w := by
  refine wpList_plain hg fun K' hK' => ?_
  have hrun := hs.look K hk ht he hz hw
  unfold Oper.wp
  simp [execOp, hop, hm, hx, hrun, Result.andThen]
  exact hK' _ _ hK
end
section
variable {P : Program} {ops : Array Oper} {rest : List Oper} {o : Oper} {a : Act} {Q : Exit → Act → World → Prop} {w : World}
theorem IsKeysS.put {k e : TypeId} {b : Nat} {ks : List ByteArray} {t : TypeId} (h : IsKeysS P k e w b ks) (K : Keyed P k) (hk : P.underlying k = some .string) (ht : P.underlying t = some (.map k e)) (he : P.underlying e = some .bool) (hn : ks.length < maxLen) {y : ByteArray} (hw : y.size ≤ maxLen) :
    ∃ w', (Instr.mapUpdate t (.map (some b)) (.string y) (.bool true)).run P w = .ok () w' ∧ IsKeysS P k e w' b (insS ks y) ∧ w.grownBy w' (some b) := by
  obtain ⟨D, h1, h2⟩ := h
  have hkey := K.key (keyS_mk hk hw)
  have hsz : Maps.size (D.put (SL y) (.lit (.bool true))) = (insS ks y).length := by
    rw [Maps.size_put (h1.tidy K), h2.2.2.1 y, h2.1, insS_len]
    by_cases hy : y ∈ ks <;> simp [hy]
  obtain ⟨w', hrun, h3, hg⟩ := h1.update K ht hn (keyS_mk hk hw) (plainElem_bool he true)
  refine ⟨w', hrun, ⟨D.put (SL y) (.lit (.bool true)), by rw [← hsz]; exact ownsMap_tightS h3, hsz, insS_nodup h2.2.1 y, fun z => ?_, fun z hz u => ?_, fun z hz => ?_⟩, hg⟩
  · by_cases hzy : z = y
    · subst hzy
      rw [Maps.has_put_same h1.isMap hkey]
      exact (decide_eq_true ((insS_mem _ _ _).2 (.inr rfl))).symm
    · rw [Maps.has_put_other (by intro e; exact hzy (SL_inj e)), h2.2.2.1 z]
      exact decide_eq_decide.2 ⟨fun h' => (insS_mem _ _ _).2 (.inl h'), fun h' => ((insS_mem _ _ _).1 h').elim id (fun e => absurd e hzy)⟩
  · by_cases hzy : z = y
    · subst hzy
      exact Maps.atKey_put_same h1.isMap hkey _ _
    · rw [Maps.atKey_put_other (by intro e; exact hzy (SL_inj e))]
      exact h2.2.2.2.1 z (((insS_mem _ _ _).1 hz).elim id (fun e => absurd e hzy)) u
  · rcases (insS_mem _ _ _).1 hz with h' | rfl
    · exact h2.2.2.2.2 z h'
    · exact hw
theorem wpList_ins_keysS (hg : o.guard = none) (m x v : Operand) (t : TypeId) (hop : o.op = Op.insert t m x v) (k e : TypeId) (K : Keyed P k) (hk : P.underlying k = some .string) (ht : P.underlying t = some (.map k e)) (he : P.underlying e = some .bool)
    (b : Nat) (ks : List ByteArray) (hm : a.eval m = .map (some b)) (h : IsKeysS P k e w b ks) (hn : ks.length < maxLen) (y : ByteArray) (hx : a.eval x = .string y) (hv : a.eval v = .bool true) (hw : y.size ≤ maxLen)
    (hK : ∀ w', IsKeysS P k e w' b (insS ks y) → w.grownBy w' (some b) → wpList P ops Q rest (a.put o.dst undef) w') : wpList P ops Q (o :: rest) a w := by
  refine wpList_plain hg fun K' hK' => ?_
  obtain ⟨w', hrun, r1, r2⟩ := h.put K hk ht he hn hw
  unfold Oper.wp
  simp [execOp, hop, hm, hx, hv, hrun, Result.andThen]
  exact hK' _ _ (hK w' r1 r2)
end
/-- A block of cells is no map. -/
theorem IsKeysS.ne_cells {P : Program} {k e : TypeId} {w : World} {b g : Nat} {ks : List ByteArray} (h : IsKeysS P k e w b ks) {cs : Array Value} {t : TypeId} {sh : Nat × Nat} (hg : w.heap[g]? = some (.cells cs t sh)) : b ≠ g := by
  obtain ⟨D, ⟨es, clock, hb, _⟩, _⟩ := h
  rintro rfl
  rw [hb] at hg
  cases hg
theorem Kd.R_notkeysS {α : Type} {d : Kd α} {P : Program} {e : Nat} {k t : TypeId} {w : World} {base b : Nat} {ok : Nat → Prop} {v : Value} {xs : List α} {ks : List ByteArray} (h : d.R e w base ok v xs) (hs : IsKeysS P k t w b ks) : v.ownBlock ≠ some b := fun hv => by
  obtain ⟨_, _, _, q, _, cells, hc⟩ := (Kd.R_bound h).1 b hv
  exact hs.ne_cells hc rfl
theorem Kd.R_notkeys {α : Type} {d : Kd α} {P : Program} {e : Nat} {k t : TypeId} {w : World} {base b : Nat} {ok : Nat → Prop} {v : Value} {xs : List α} {ks : List Int} (h : d.R e w base ok v xs) (hs : IsKeys P k t w b ks) : v.ownBlock ≠ some b := fun hv => by
  obtain ⟨_, _, _, q, _, cells, hc⟩ := (Kd.R_bound h).1 b hv
  obtain ⟨D, ⟨es, clock, hb, _⟩, _⟩ := hs
  rw [hb] at hc
  cases hc
end Go.Proofs.Ythegbhfoleiegaa.All

/- Contracts of Go's library at this translation: laid by the shelf's lay-shelf.mjs and lay-plain.mjs, those that this session's claims use. -/
namespace Go.Proofs
open Go.Shelf
set_option linter.unusedVariables false
def Try.laysGg6_ren : Go.Shelf.Ren := ⟨fun | 6 => 125 | 10 => 131 | 11 => 132 | 12 => 134 | 13 => 158 | 14 => 159 | 24 => 190 | 25 => 191 | 26 => 169 | 27 => 192 | 28 => 193 | 29 => 194 | 30 => 195 | 31 => 196 | 32 => 197 | 33 => 198 | 34 => 212 | 35 => 213 | 36 => 214 | 37 => 215 | 38 => 216 | 39 => 219 | n => n, fun | 20 => 20 | 26 => 120 | 35 => 178 | 0 => 0 | 37 => 180 | 3 => 3 | 41 => 202 | 44 => 184 | 49 => 221 | 51 => 218 | 4 => 4 | 54 => 230 | 53 => 229 | 58 => 234 | 5 => 5 | 9 => 9 | 60 => 244 | 64 => 248 | 66 => 251 | 67 => 252 | 17 => 17 | 32 => 175 | 33 => 176 | 82 => 266 | 12 => 12 | 75 => 259 | 76 => 260 | 77 => 261 | 78 => 262 | 79 => 263 | 80 => 264 | n => n, fun | n => n⟩
theorem Try.laysGg6 : Go.Proofs.LaysGg.n6 Try.prog Try.laysGg6_ren := {
  mixed := by kernel_rfl
  f6 := Try.func125.trans (congrArg some (by kernel_rfl))
  f10 := Try.func131.trans (congrArg some (by kernel_rfl))
  f11 := Try.func132.trans (congrArg some (by kernel_rfl))
  f12 := Try.func134.trans (congrArg some (by kernel_rfl))
  f13 := Try.func158.trans (congrArg some (by kernel_rfl))
  f14 := Try.func159.trans (congrArg some (by kernel_rfl))
  f24 := Try.func190.trans (congrArg some (by kernel_rfl))
  f25 := Try.func191.trans (congrArg some (by kernel_rfl))
  f26 := Try.func169.trans (congrArg some (by kernel_rfl))
  f27 := Try.func192.trans (congrArg some (by kernel_rfl))
  f28 := Try.func193.trans (congrArg some (by kernel_rfl))
  f29 := Try.func194.trans (congrArg some (by kernel_rfl))
  f30 := Try.func195.trans (congrArg some (by kernel_rfl))
  f31 := Try.func196.trans (congrArg some (by kernel_rfl))
  f32 := Try.func197.trans (congrArg some (by kernel_rfl))
  f33 := Try.func198.trans (congrArg some (by kernel_rfl))
  f34 := Try.func212.trans (congrArg some (by kernel_rfl))
  f35 := Try.func213.trans (congrArg some (by kernel_rfl))
  f36 := Try.func214.trans (congrArg some (by kernel_rfl))
  f37 := Try.func215.trans (congrArg some (by kernel_rfl))
  f38 := Try.func216.trans (congrArg some (by kernel_rfl))
  f39 := Try.func219.trans (congrArg some (by kernel_rfl))
  t0 := Try.underlying0
  a0 := Try.isAgg0
  z0 := Try.sizeOf0
  v0 := Try.zeroValue0
  i0 := by kernel_rfl
  t3 := Try.underlying3
  a3 := Try.isAgg3
  z3 := Try.sizeOf3
  v3 := Try.zeroValue3
  i3 := by kernel_rfl
  t4 := Try.underlying4
  a4 := Try.isAgg4
  z4 := Try.sizeOf4
  v4 := Try.zeroValue4
  i4 := by kernel_rfl
  t5 := Try.underlying5
  a5 := Try.isAgg5
  z5 := Try.sizeOf5
  v5 := Try.zeroValue5
  i5 := by kernel_rfl
  t9 := Try.underlying9
  a9 := Try.isAgg9
  z9 := Try.sizeOf9
  v9 := Try.zeroValue9
  i9 := by kernel_rfl
  t12 := Try.underlying12
  a12 := Try.isAgg12
  z12 := Try.sizeOf12
  v12 := Try.zeroValue12
  i12 := by kernel_rfl
  t17 := Try.underlying17
  a17 := Try.isAgg17
  z17 := Try.sizeOf17
  v17 := Try.zeroValue17
  i17 := by kernel_rfl
  t20 := Try.underlying20
  a20 := Try.isAgg20
  z20 := Try.sizeOf20
  v20 := Try.zeroValue20
  i20 := by kernel_rfl
  t26 := Try.underlying120
  a26 := Try.isAgg120
  z26 := Try.sizeOf120
  v26 := Try.zeroValue120
  i26 := by kernel_rfl
  t32 := Try.underlying175
  a32 := Try.isAgg175
  z32 := Try.sizeOf175
  v32 := Try.zeroValue175
  i32 := by kernel_rfl
  t33 := Try.underlying176
  a33 := Try.isAgg176
  z33 := Try.sizeOf176
  v33 := Try.zeroValue176
  i33 := by kernel_rfl
  t35 := Try.underlying178
  a35 := Try.isAgg178
  z35 := Try.sizeOf178
  v35 := Try.zeroValue178
  i35 := by kernel_rfl
  t37 := Try.underlying180
  a37 := Try.isAgg180
  z37 := Try.sizeOf180
  v37 := Try.zeroValue180
  i37 := by kernel_rfl
  t41 := Try.underlying202
  a41 := Try.isAgg202
  z41 := Try.sizeOf202
  v41 := Try.zeroValue202
  i41 := by kernel_rfl
  t44 := Try.underlying184
  a44 := Try.isAgg184
  z44 := Try.sizeOf184
  v44 := Try.zeroValue184
  i44 := by kernel_rfl
  t49 := Try.underlying221
  a49 := Try.isAgg221
  z49 := Try.sizeOf221
  v49 := Try.zeroValue221
  i49 := by kernel_rfl
  t51 := Try.underlying218
  a51 := Try.isAgg218
  z51 := Try.sizeOf218
  v51 := Try.zeroValue218
  i51 := by kernel_rfl
  t53 := Try.underlying229
  a53 := Try.isAgg229
  z53 := Try.sizeOf229
  v53 := Try.zeroValue229
  i53 := by kernel_rfl
  t54 := Try.underlying230
  a54 := Try.isAgg230
  z54 := Try.sizeOf230
  v54 := Try.zeroValue230
  i54 := by kernel_rfl
  t58 := Try.underlying234
  a58 := Try.isAgg234
  z58 := Try.sizeOf234
  v58 := Try.zeroValue234
  i58 := by kernel_rfl
  t60 := Try.underlying244
  a60 := Try.isAgg244
  z60 := Try.sizeOf244
  v60 := Try.zeroValue244
  i60 := by kernel_rfl
  t64 := Try.underlying248
  a64 := Try.isAgg248
  z64 := Try.sizeOf248
  v64 := Try.zeroValue248
  i64 := by kernel_rfl
  t66 := Try.underlying251
  a66 := Try.isAgg251
  z66 := Try.sizeOf251
  v66 := Try.zeroValue251
  i66 := by kernel_rfl
  t67 := Try.underlying252
  a67 := Try.isAgg252
  z67 := Try.sizeOf252
  v67 := Try.zeroValue252
  i67 := by kernel_rfl
  t75 := Try.underlying259
  a75 := Try.isAgg259
  z75 := Try.sizeOf259
  v75 := Try.zeroValue259
  i75 := by kernel_rfl
  t76 := Try.underlying260
  a76 := Try.isAgg260
  z76 := Try.sizeOf260
  v76 := Try.zeroValue260
  i76 := by kernel_rfl
  t77 := Try.underlying261
  a77 := Try.isAgg261
  z77 := Try.sizeOf261
  v77 := Try.zeroValue261
  i77 := by kernel_rfl
  t78 := Try.underlying262
  a78 := Try.isAgg262
  z78 := Try.sizeOf262
  v78 := Try.zeroValue262
  i78 := by kernel_rfl
  t79 := Try.underlying263
  a79 := Try.isAgg263
  z79 := Try.sizeOf263
  v79 := Try.zeroValue263
  i79 := by kernel_rfl
  t80 := Try.underlying264
  a80 := Try.isAgg264
  z80 := Try.sizeOf264
  v80 := Try.zeroValue264
  i80 := by kernel_rfl
  t82 := Try.underlying266
  a82 := Try.isAgg266
  z82 := Try.sizeOf266
  v82 := Try.zeroValue266
  i82 := by kernel_rfl }
end Go.Proofs

/- sort.Slice at a row of int64 of the call's own, by the caller's own 'l[i] < l[j]' over the boxed row: the shelf's contract, told of rows. -/
namespace Go.Proofs.Ythegbhfoleiegaa.All
open Go.RowKit Go.Proofs.YthegbhfoleiegaaW.PrintWords Go.Proofs.YthegbhfoleiegaaW.PrintLast Go.Proofs.YthegbhfoleiegaaW.PrintMore
set_option linter.unusedVariables false
set_option linter.unusedSimpArgs false
open Go.Shelf Go.Lib Go.Sort
noncomputable def siT : TypeInfo := (Try.prog.info? 22).get (by kernel_rfl)
noncomputable def siE : TypeInfo := (Try.prog.info? 2).get (by kernel_rfl)
theorem siK (n : Nat) (h2 : 2 ≤ n) : Lib.swapperK n siE 6 = 5 := by
  have a : siE.hasPointers = false := by kernel_rfl
  have b : siE.bytes = 8 := by kernel_rfl
  have c : (n == 0) = false := by simp; omega
  have d : (n == 1) = false := by simp; omega
  simp [Lib.swapperK, a, b, c, d]
def sortI (xs : List Int) : List Int := xs.mergeSort fun x y => decide (x ≤ y)
theorem sortI_len (xs : List Int) : (sortI xs).length = xs.length := by unfold sortI; exact List.length_mergeSort _
theorem ints_sorted_eq (d d' : Array Int) (hp : PermIn 0 d.size d d') (hs : SortedIn ltInt 0 d.size d') : d' = (sortI d.toList).toArray := by
  have h := sorted_unique_holds (lt := ltInt) swo_ltInt (fun x y h1 h2 => by simp only [ltInt, decide_eq_false_iff_not] at h1 h2; omega) d d' hp hs
  have e : (fun x y : Int => !ltInt y x) = fun x y => decide (x ≤ y) := by
    funext x y
    simp only [ltInt]
    by_cases h : x ≤ y
    · first | (simp [h]; done) | (simp [h]; omega)
    · first | (simp [h]; done) | (simp [h]; omega)
  rw [e] at h
  unfold sortI
  rw [← h]
set_option maxHeartbeats 2000000 in
set_option maxRecDepth 100000 in
theorem less_ints (blk off c Bs size : Nat) (W : World) (G : Nat → Int) (hs : W.cell? ⟨Bs, 0, none⟩ = some (.slice (some ⟨blk, off, none⟩) size c))
    (hc : ∀ t, t < size → W.cell? ⟨blk, off + t, none⟩ = some (.int .i64 (G t))) (i j : Nat) (hi : i < size) (hj : j < size) :
    Calls Try.prog 126 #[.int .i64 i, .int .i64 j, .pointer (some ⟨Bs, 0, none⟩)] W fun e w' => e = .returned (.bool (decide (G i < G j))) ∧ ∃ q, w' = W.drewN q := by
  have ci := hc i hi
  have cj := hc j hj
  go_enter Try.func126, Try.ntmps126
  go_wp2
  go_quiet (fail)
  go_wp2
  go_ret
  exact ⟨rfl, nq, rfl⟩
set_option maxHeartbeats 4000000 in
set_option maxRecDepth 100000 in
theorem sort_small (blk c Bs : Nat) (d : Array Int) (h2 : 2 ≤ d.size) (h12 : d.size < 4611686018427387904) (w : World) (hH : Holds (Value.int .i64) w blk 0 d) (hblk : blk < w.heap.size)
    (hBs : w.cell? ⟨Bs, 0, none⟩ = some (.slice (some ⟨blk, 0, none⟩) d.size c)) (hlt : Bs < w.heap.size) (hne : Bs ≠ blk) :
    Calls Try.prog 125 #[.iface 22 (.slice (some ⟨blk, 0, none⟩) d.size c), .func (.func 126) #[] #[.pointer (some ⟨Bs, 0, none⟩)]] w fun e w' =>
      e = .returned (.tuple #[]) ∧ ∃ n os, w' = grow (putRow (Value.int .i64) (Sort.ahead w n) blk 0 (sortI d.toList).toArray) os := by
  have hless : LessReads Try.prog 126 #[.pointer (some ⟨Bs, 0, none⟩)] (Value.int .i64) ltInt blk 0 d.size w := by
    intro m os dk hs i j hi hj
    have e : sortWorld (Value.int .i64) w blk 0 m dk os = putRow (Value.int .i64) (grow (Sort.ahead w m) os) blk 0 dk := by
      unfold sortWorld; rw [putRow_grow _ (Sort.ahead w m) _ blk 0 _ hblk]
    have hHg : Holds (Value.int .i64) (grow (Sort.ahead w m) os) blk 0 d := holds_grow _ _ _ blk 0 d hblk (holds_ahead _ _ _ _ _ _ hH)
    refine less_ints blk 0 c Bs d.size _ (fun t => dk[t]!) ?_ (fun t ht => ?_) i j hi hj
    · rw [e, cell?_putRow_other _ _ blk 0 dk _ (Or.inl hne), cell?_grow _ _ _ hlt]
      exact hBs
    · rw [e]; exact cell?_putRow _ _ blk 0 d dk hHg hs t (by omega)
  have hS := Any.sort_Slice_sorted Try.laysGg6 22 2 siT siE (by kernel_rfl) (by kernel_rfl) (by kernel_rfl) (by kernel_rfl) 6 (fun _ => by kernel_rfl) (by kernel_rfl) (fun _ => by kernel_rfl) (Value.int .i64) (fun _ => rfl) ltInt swo_ltInt 126 _
    (enters_of Try.func126 (by kernel_rfl) rfl) blk 0 c d h2 h12 164 (by rw [siK _ h2]; kernel_rfl) true
    (fun args W => run_callFunc_extern Try.func164 (by kernel_rfl) (by kernel_rfl) (by kernel_rfl) (e := Extern.ReflectliteSwapper.swap true) (by kernel_rfl) args W) _ hless hH hblk
  change Calls Try.prog 125 _ _ _ at hS
  refine hS.mono ?_
  rintro e w' ⟨rfl, d', n, os, hp, hso, rfl⟩
  rw [ints_sorted_eq d d' hp hso]
  exact ⟨rfl, n, os, rfl⟩
set_option maxHeartbeats 4000000 in
set_option maxRecDepth 100000 in
theorem sort_tiny (p : Option Addr) (n c Bs : Nat) (h1 : n ≤ 1) (w : World) :
    Calls Try.prog 125 #[.iface 22 (.slice p n c), .func (.func 126) #[] #[.pointer (some ⟨Bs, 0, none⟩)]] w fun e w' => e = .returned (.tuple #[]) ∧ ∃ os, w' = grow w os := by
  have hK : Lib.swapperK n siE 6 = n + 1 := by
    rcases Nat.eq_zero_or_pos n with h | h
    · subst h; simp [Lib.swapperK]
    · obtain rfl : n = 1 := by omega
      simp [Lib.swapperK]
  have hS := Any.sort_Slice_tiny Try.laysGg6 22 2 siT siE (by kernel_rfl) (by kernel_rfl) (by kernel_rfl) (by kernel_rfl) 6 (fun _ => by kernel_rfl) p n c h1 (160 + n) (by
    rw [hK]
    rcases Nat.eq_zero_or_pos n with h | h
    · subst h; kernel_rfl
    · obtain rfl : n = 1 := by omega
      kernel_rfl) (.func 126) #[] #[.pointer (some ⟨Bs, 0, none⟩)] w
  change Calls Try.prog 125 _ _ _ at hS
  exact hS
section
variable {w : World} {base : Nat} {e : Nat} {ok : Nat → Prop} {v : Value} {xs : List Int}
theorem R_own_int (h : (Kd.int .i64).R e w base ok v xs) : w.ownsRow base e 1 v xs.length (xs.map (Value.int .i64)) := by
  obtain ⟨_, inner, ho, hr⟩ := h
  have e1 : inner = xs.map (Value.int .i64) := Kd.reps_encs (enc := Value.int .i64) hr
  rw [← e1]
  exact ho
theorem own_int_R (h0 : ∀ k, v.ownBlock = some k → ok k) (h : w.ownsRow base e 1 v xs.length (xs.map (Value.int .i64))) : (Kd.int .i64).R e w base ok v xs :=
  ⟨h0, _, h, Kd.reps_scalar (enc := Value.int .i64) xs⟩
end
/-- The row of the call's own, boxed at Bs, sorted by the library. -/
theorem sort_R (base : Nat) (ok : Nat → Prop) (Bs : Nat) (v : Value) (xs : List Int) (w : World) (hR : (Kd.int .i64).R 2 w base ok v xs) (hBs : w.cell? ⟨Bs, 0, none⟩ = some v) (hlt : Bs < w.heap.size) (hne : some Bs ≠ v.ownBlock) (hl : xs.length < 4611686018427387904) :
    Calls Try.prog 125 #[.iface 22 v, .func (.func 126) #[] #[.pointer (some ⟨Bs, 0, none⟩)]] w fun e w' =>
      e = .returned (.tuple #[]) ∧ (Kd.int .i64).R 2 w' base ok v (sortI xs) ∧ w.grownBy w' v.ownBlock := by
  have ho := R_own_int hR
  have h0 := hR.1
  have htiny : ∀ (os : Array Obj), xs.length ≤ 1 → (Kd.int .i64).R 2 (grow w os) base ok v (sortI xs) ∧ w.grownBy (grow w os) v.ownBlock := by
    intro os h1
    have hb : w.grownBy (grow w os) none := ⟨rfl, rfl, rfl, by simp, fun k hk _ => heap_grow_old _ _ hk⟩
    have hs : sortI xs = xs := by
      unfold sortI
      match xs, h1 with
      | [], _ => simp
      | [x], _ => simp
      | x :: y :: r, h1 => simp at h1
    rw [hs]
    exact ⟨Kd.R_grown hR hb (fun k _ => by simp), ⟨hb.os, hb.tape, hb.output, hb.size, fun i hi _ => hb.block i hi (by simp)⟩⟩
  obtain ⟨hz, ⟨rfl, hn⟩ | ⟨g, cap, cur, rfl, hb, hg, hle, hcap, hsz, htk⟩⟩ := ho
  · have hx : xs.length = 0 := by omega
    refine (sort_tiny none 0 0 Bs (by omega) w).mono ?_
    rintro e w' ⟨rfl, os, rfl⟩
    exact ⟨rfl, htiny os (by omega)⟩
  · have hg' : g < w.heap.size := blk_lt hg
    by_cases h2 : 2 ≤ xs.length
    · rw [Nat.mul_one] at htk
      have hH := holds_of_blockI hg htk
      have h := sort_small g cap Bs xs.toArray (by simpa using h2) (by simpa using hl) w hH hg' (by simpa using hBs) hlt (fun e => hne (by rw [e]; rfl))
      rw [show xs.toArray.size = xs.length by simp] at h
      refine h.mono ?_
      rintro e w' ⟨rfl, n, os, rfl⟩
      have h3 := ownsRow_sortedI (w := w) (base := base) (n := n) (os := os) (ts := sortI xs) (sortI_len xs) hb hg hle hcap hsz
      refine ⟨rfl, own_int_R h0 (by rw [sortI_len]; exact h3), ?_⟩
      exact grownBy_sortedI (g := g) _
    · refine (sort_tiny _ _ cap Bs (by omega) w).mono ?_
      rintro e w' ⟨rfl, os, rfl⟩
      exact ⟨rfl, htiny os (by omega)⟩
end Go.Proofs.Ythegbhfoleiegaa.All

/- impl.xsorted: the keys of a map of true alone, sorted: walked by hand. -/
namespace Go.Proofs.Ythegbhfoleiegaa.All
open Go.RowKit Go.Proofs.YthegbhfoleiegaaW.PrintWords Go.Proofs.YthegbhfoleiegaaW.PrintLast Go.Proofs.YthegbhfoleiegaaW.PrintMore
set_option linter.unusedVariables false
set_option linter.unusedSimpArgs false
theorem grown_cell (w : World) (a : Addr) (u : Value) : w.grownBy (w.setCell a u) (some a.block) :=
  ⟨rfl, rfl, rfl, by simp, fun i hi hne => Below.heap_setCell w a u i (fun e => hne (by rw [e]))⟩
theorem nodup_push {ys : List Int} {x : Int} (h : ys.Nodup) (hn : x ∉ ys) : (ys ++ [x]).Nodup := by
  rw [List.nodup_append]
  exact ⟨h, by simp, fun a ha b hb => by rw [List.mem_singleton.1 hb]; rintro rfl; exact hn ha⟩
set_option maxHeartbeats 4000000 in
set_option maxRecDepth 100000 in
theorem xsorted_calls (b : Nat) (ks : List Int) (w : World) (h : IsKeys Try.prog 2 4 w b ks) (hl : ks.length < 1099511627776) :
    Calls Try.prog 71 #[.map (some b)] w fun e w' => ∃ v, e = .returned v ∧ (Kd.int .i64).R 2 w' w.heap.size (fun _ => True) v (sortI ks) ∧ Below w.heap.size w w' := by
  have hb := h.lt
  have HK := Aside0.mk h
  have HL := Aside0.mk hl
  clear h hl
  have B0 := Aside0.mk (blk_new w (.cells #[.slice none 0 0] 22 (0, 0)))
  have e1 : (w.alloc (.cells #[.slice none 0 0] 22 (0, 0))).heap.size = w.heap.size + 1 := by simp
  go_enter Try.func71, Try.ntmps71
  go_wp2_with (first | (at_range; refine wpList_range_keys rfl _ 92 rfl 2 4 (Maps.int_keyed Try.underlying2) Try.underlying92 b ks rfl (HK.out.alloc _) ?_; intro w0 hrg0 hg0 hs0))
  rw [e1] at hrg0 hs0
  have HG := Aside0.mk hrg0
  have HX := Aside0.mk (blk_grown B0.out hg0 (by simp))
  have HB := Aside0.mk (below_step (below_alloc (Below.refl _ _) (.cells #[.slice none 0 0] 22 (0, 0))) (Below.grown (Below.refl _ _) hg0 (Nat.le_refl _) (fun _ e => by cases e)))
  clear hrg0 hg0 B0
  go_frame
  (first | rw [e1] | skip)
  clear e1
  go_loopw [4] (fun _ wr => ∃ (lf ys : List Int) (u : Value), Aside0 (KRange Try.prog 2 4 wr b (w.heap.size + 1) ks lf) ∧ Aside0 (∀ x ∈ lf, x ∈ ks) ∧ Aside0 (wr.heap[w.heap.size]? = some (.cells #[u] 22 (0, 0))) ∧ Aside0 ((Kd.int .i64).R 2 wr w.heap.size (fun k => k ≠ w.heap.size ∧ k ≠ w.heap.size + 1) u ys) ∧ Aside0 (ys.Nodup ∧ ∀ x, x ∈ ys ↔ x ∈ ks ∧ x ∉ lf) ∧ Aside0 (Below w.heap.size w wr))
    (fun _ wr => wr.rangeLeft b (w.heap.size + 1))
  case atStart => exact ⟨ks, [], .slice none 0 0, HG, ⟨fun x h => h⟩, HX, ⟨Kd.R_nil _ _ _ _ _⟩, ⟨List.nodup_nil, by simp⟩, HB⟩
  case round =>
    clear HG HX HB
    obtain ⟨lf, ys, u, HG, HS, HX, HR, HP, HB⟩ := hrel
    obtain ⟨Au, cu, eu⟩ := Kd.R_slice HR.out
    subst eu
    have hrl := HG.out.lt
    have hyl : ys.length ≤ ks.length := nodup_sub_len _ _ HP.out.1 (fun y hy => ((HP.out.2 y).1 hy).1)
    have hne : ∀ k, (Value.slice Au ys.length cu).ownBlock = some k → k ≠ w.heap.size ∧ k ≠ w.heap.size + 1 := HR.out.1
    have hge : ∀ k, (Value.slice Au ys.length cu).ownBlock = some k → w.heap.size ≤ k := fun k hk => (HR.out.2.choose_spec.1.lt k hk).1
    have HNE := Aside0.mk hne
    have HGE := Aside0.mk hge
    clear hne hge
    go_wp2_with (first | (at_next; refine wpList_next_keys rfl _ rfl 2 4 (Maps.int_keyed Try.underlying2) Try.underlying2 Try.underlying4 b (w.heap.size + 1) ks lf rfl HG.out HS.out ?_ ?_))
    · intro hlf
      subst hlf
      have b0 := (blk_cell HX.out 0).trans rfl
      have hlt := blk_lt HX.out
      have hl := HL.out
      have hmf : ∀ (fn : Fn) (first cap : Array Value) (w : World), (Instr.makeFunc fn first cap).run Try.prog w = .ok (.func fn first cap) w := fun _ _ _ _ => rfl
      go_wp2_with (first | (go_at_call 125; refine (sort_R w.heap.size (fun k => k ≠ w.heap.size ∧ k ≠ w.heap.size + 1) w.heap.size (.slice Au ys.length cu) ys _ HR.out b0 hlt (by intro e; exact (HNE.out _ e.symm).1 rfl) (by omega)).mono ?_; rintro e w2 ⟨rfl, hr2, hg2⟩; have HR2 := Aside0.mk hr2; have HG2 := Aside0.mk hg2; have b2 := (blk_cell (blk_grown HX.out hg2 (by intro e; have h := HNE.out _ e.symm; exact h.1 rfl)) 0).trans rfl; clear hr2 hg2))
      go_ret
      have hs : sortI ys = sortI ks := by
        have hp : ys.Perm ks := (List.perm_ext_iff_of_nodup HP.out.1 HK.out.nodup).2 (fun x => by rw [HP.out.2 x]; simp)
        unfold sortI
        refine List.Perm.eq_of_pairwise (le := fun x y => x ≤ y) (fun a b _ _ h1 h2 => Int.le_antisymm h1 h2) ?_ ?_ ((List.mergeSort_perm _ _).trans (hp.trans (List.mergeSort_perm _ _).symm))
        · exact (List.pairwise_mergeSort (le := fun x y : Int => decide (x ≤ y)) (fun a b c h1 h2 => by simp at h1 h2 ⊢; omega) (fun a b => by simp; omega) ys).imp (fun h => by simpa using h)
        · exact (List.pairwise_mergeSort (le := fun x y : Int => decide (x ≤ y)) (fun a b c h1 h2 => by simp at h1 h2 ⊢; omega) (fun a b => by simp; omega) ks).imp (fun h => by simpa using h)
      rw [← hs]
      exact ⟨_, rfl, Kd.R_mono HR2.out (fun _ _ => trivial), belowG HB.out HG2.out HGE.out⟩
    · intro x w1 hwx hx hg1 hlt hgr hsz hen
      have hgl := hg1.lt
      have hx1 := blk_grown HX.out hgr (by intro e; have := Option.some.inj e; omega)
      have b1 := (blk_cell hx1 0).trans rfl
      have HX1 := Aside0.mk hx1
      have HB1 := Aside0.mk (belowG HB.out hgr (fun k e => by cases e; omega))
      have HR1 := Aside0.mk (Kd.R_grown HR.out hgr (fun k hk e => by cases e; exact hk.2 rfl))
      have HG1 := Aside0.mk hg1
      have HSZ := Aside0.mk hsz
      clear hx1 hg1 hgr HX HB HR HG hsz
      have hl := HL.out
      go_wp2_with (first | (at_builtin; refine Kd.R_append (Kd.int .i64) (w0 := w) w.heap.size rfl (.tmp 11) (.tmp 13) 22 2 (.int .i64 0) 8 rfl Try.underlying22 info2 rfl (by decide) (by decide) (.slice Au ys.length cu) ys x [.int .i64 x] (fun k => k ≠ w.heap.size ∧ k ≠ w.heap.size + 1) (fun _ => False) rfl rfl ?aP (fun _ hk => hk.elim) ?aF ?aO ?aB ?aS ?aL ?_; (case aP => exact rfl); (case aF => exact (fun k hk => by show k ≠ _ ∧ k ≠ _; have := HB1.out.size; omega)); (case aO => exact HR1.out); (case aB => exact HB1.out); (case aS => exact HB1.out.size); (case aL => omega); intro v4 w4 ho4 hb4 hg4 hat4; obtain ⟨g4, c4, e4, _, _, _⟩ := Kd.R_form ho4 (by simp); subst e4; rw [show (ys ++ [x]).length = ys.length + 1 from by simp] at ho4 hat4; have HO4 := Aside0.mk ho4; have b4 := (blk_cell (blk_grown HX1.out hg4 (by intro e; have h := HNE.out _ e.symm; exact h.1 rfl)) 0).trans rfl; have z4 := blk_frozen (blk_grown HX1.out hg4 (by intro e; have h := HNE.out _ e.symm; exact h.1 rfl)) 0))
      have hbb : ∀ k, (Value.slice Au ys.length cu).ownBlock = some k → k ≠ b := fun k hk e => by have := HGE.out k hk; omega
      have hg5 := grown_cell w4 ⟨w.heap.size, 0, none⟩ (.slice (some ⟨g4, 0, none⟩) (ys.length + 1) c4)
      have hG4 := HG1.out.kept hg4 (by intro e; exact hbb _ e.symm rfl) (by intro e; exact (HNE.out _ e.symm).2 rfl)
      have hG5 := hG4.kept hg5 (by intro e; have := Option.some.inj e; simp at this; omega) (by intro e; have := Option.some.inj e; simp at this)
      have hl4 := HG1.out.left_kept hg4 (by intro e; exact hbb _ e.symm rfl) (by intro e; exact (HNE.out _ e.symm).2 rfl)
      have hl5 := hG4.left_kept hg5 (by intro e; have := Option.some.inj e; simp at this; omega) (by intro e; have := Option.some.inj e; simp at this)
      have hx5 := blk_set (blk_grown HX1.out hg4 (by intro e; exact (HNE.out _ e.symm).1 rfl)) 0 (.slice (some ⟨g4, 0, none⟩) (ys.length + 1) c4)
      have hr5 := Kd.R_grown HO4.out hg5 (fun k hk e => by cases e; exact hk.1 rfl)
      go_roundw
      case measure => rw [hl5, hl4]; exact hlt
      case rel => first | exact ⟨_, ys ++ [x], .slice (some ⟨g4, 0, none⟩) (ys.length + 1) c4, ⟨hG5⟩, ⟨fun y hy => HS.out y (List.mem_filter.1 hy).1⟩, ⟨hx5⟩, ⟨hr5⟩, ⟨nodup_push HP.out.1 (fun h => ((HP.out.2 x).1 h).2 hx), fun y => by rw [List.mem_append, HP.out.2, List.mem_filter]; by_cases hy : y = x <;> simp [hy, HS.out x hx]⟩, ⟨belowG hb4 hg5 (fun k e => by cases e; exact Nat.le_refl _)⟩⟩ | ((repeat apply Exists.intro); exact ⟨⟨_, ys ++ [x], .slice (some ⟨g4, 0, none⟩) (ys.length + 1) c4, ⟨hG5⟩, ⟨fun y hy => HS.out y (List.mem_filter.1 hy).1⟩, ⟨hx5⟩, ⟨hr5⟩, ⟨nodup_push HP.out.1 (fun h => ((HP.out.2 x).1 h).2 hx), fun y => by rw [List.mem_append, HP.out.2, List.mem_filter]; by_cases hy : y = x <;> simp [hy, HS.out x hx]⟩, ⟨belowG hb4 hg5 (fun k e => by cases e; exact Nat.le_refl _)⟩⟩, rfl⟩)
end Go.Proofs.Ythegbhfoleiegaa.All

/- What impl.Gather computes. -/
namespace Go.Proofs.Ythegbhfoleiegaa.All
open Go.RowKit Go.Proofs.YthegbhfoleiegaaW.PrintWords Go.Proofs.YthegbhfoleiegaaW.PrintLast Go.Proofs.YthegbhfoleiegaaW.PrintMore
set_option linter.unusedVariables false
set_option linter.unusedSimpArgs false
abbrev GO := S68
abbrev GSec := S130
abbrev GRel := S132
/-- A kind whose elements are told at a world that is past. -/
def KF {α : Type} (d : Kd α) (w0 : World) : Kd α where
  sz := d.sz
  E := []
  K := fun _ x cs => d.K w0 x cs
  M := fun _ _ _ x cs => d.K w0 x cs
  K_len := fun h => d.K_len h
  K_one := fun h => d.K_one h
  K_below := fun _ h => h
  K_of_M := fun h => h
  M_mono := fun _ h => h
  M_bound := fun h => h
  M_move := fun _ h => h
  M_lower := fun _ h => h
def localB (o : GO) (n : ByteArray) : Bool := o.f0.any fun s => decide (s.f0 = n) && decide (s.f2 = 3)
def givesB (o : GO) (n : ByteArray) : Bool := o.f0.any fun s => decide (s.f0 = n) && (decide (s.f2 = 1) || decide (s.f2 = 2))
def relS (o : GO) (ks : List ByteArray) (r : GRel) : List ByteArray := if localB o r.f2 = true then ks else insS ks r.f2
def secS (o : GO) (ks : List ByteArray) (s : GSec) : List ByteArray := s.f7.foldl (relS o) (if s.f2 = 0 then insS ks s.f0 else ks)
def objS (ks : List ByteArray) (o : GO) : List ByteArray := o.f0.foldl (secS o) ks
def wantK (ins : List GO) (entry : ByteArray) : List ByteArray := ins.foldl objS [entry]
def dropK (ks : List ByteArray) (o : GO) : List ByteArray := ks.filter fun n => !givesB o n
def leftK (ins : List GO) (ks : List ByteArray) : List ByteArray := ins.foldl dropK ks
def hitS (W : List ByteArray) (s : GSec) : Bool := (decide (s.f2 = 1) || decide (s.f2 = 2)) && decide (s.f0 ∈ W)
def hitO (W : List ByteArray) (o : GO) : Bool := o.f0.any (hitS W)
def firstHit (arch : List GO) (tk : List Int) (W : List ByteArray) : Option Nat := (List.range arch.length).find? fun i => !decide ((i : Int) ∈ tk) && hitO W (arch.getD i z68)
def nO (o : GO) : Nat := (o.f0.map fun s => 1 + s.f7.length).sum
def okIns (ins : List GO) : Prop := ins.length ≤ 1000000000 ∧ (ins.map nO).sum ≤ 1000000000
instance (ins : List GO) : Decidable (okIns ins) := by unfold okIns; infer_instance
def gath (arch : List GO) (entry : ByteArray) : Nat → List GO → List Int → Option (List Int)
  | 0, _, _ => none
  | k + 1, ins, tk => if okIns ins then (match firstHit arch tk (leftK ins (wantK ins entry)) with
    | none => some tk
    | some i => gath arch entry k (ins ++ [arch.getD i z68]) (insK tk (i : Int))) else none
def allN (os : List GO) : List ByteArray := os.flatMap fun o => o.f0.flatMap fun s => s.f0 :: s.f7.map fun r => r.f2
def okG (k : Nat) (os : List GO) (entry : ByteArray) : Prop :=
  entry.size ≤ 1000000000 ∧ (∀ o ∈ os, o.f0.length ≤ 1000000000 ∧ ∀ s ∈ o.f0, s.f0.size ≤ 1000000000 ∧ s.f7.length ≤ 1000000000 ∧ ∀ r ∈ s.f7, r.f2.size ≤ 1000000000 ∧ impl_localIn.f k o.f0 r.f2 = some (localB o r.f2)) ∧ ∀ o ∈ os, ∀ n ∈ entry :: allN os, impl_gives.f k o.f0 n = some (givesB o n)
instance (k : Nat) (os : List GO) (entry : ByteArray) : Decidable (okG k os entry) := by unfold okG; infer_instance
theorem gath_mono (arch : List GO) (entry : ByteArray) : ∀ (k : Nat) (ins : List GO) (tk r : List Int), gath arch entry k ins tk = some r → gath arch entry (k + 1) ins tk = some r
  | 0, _, _, _, h => by cases h
  | k + 1, ins, tk, r, h => by
    rw [gath] at h
    rw [gath]
    split at h
    · rename_i hc
      rw [if_pos hc]
      cases hf : firstHit arch tk (leftK ins (wantK ins entry)) with
      | none => rw [hf] at h; exact h
      | some i => rw [hf] at h; exact gath_mono arch entry k _ _ r h
    · cases h
/-! lengths -/
theorem relS_ln (o : GO) : ∀ (rs : List GRel) (ks : List ByteArray), (rs.foldl (relS o) ks).length ≤ ks.length + rs.length
  | [], ks => Nat.le_refl _
  | r :: rs, ks => by
    have h := relS_ln o rs (relS o ks r)
    have h2 : (relS o ks r).length ≤ ks.length + 1 := by unfold relS; split; omega; exact insS_le _ _
    rw [List.foldl_cons, List.length_cons]
    omega
theorem secS_ln (o : GO) (ks : List ByteArray) (s : GSec) : (secS o ks s).length ≤ ks.length + (1 + s.f7.length) := by
  unfold secS
  have h := relS_ln o s.f7 (if s.f2 = 0 then insS ks s.f0 else ks)
  have h2 : (if s.f2 = 0 then insS ks s.f0 else ks).length ≤ ks.length + 1 := by split; exact insS_le _ _; omega
  omega
theorem secsS_ln (o : GO) : ∀ (ss : List GSec) (ks : List ByteArray), (ss.foldl (secS o) ks).length ≤ ks.length + (ss.map fun s => 1 + s.f7.length).sum
  | [], ks => Nat.le_refl _
  | s :: ss, ks => by
    have h := secsS_ln o ss (secS o ks s)
    have h2 := secS_ln o ks s
    rw [List.foldl_cons, List.map_cons, List.sum_cons]
    omega
theorem objS_ln : ∀ (os : List GO) (ks : List ByteArray), (os.foldl objS ks).length ≤ ks.length + (os.map nO).sum
  | [], ks => Nat.le_refl _
  | o :: os, ks => by
    have h := objS_ln os (objS ks o)
    have h2 : (objS ks o).length ≤ ks.length + nO o := secsS_ln o o.f0 ks
    rw [List.foldl_cons, List.map_cons, List.sum_cons]
    omega
/-! names -/
theorem relS_sub {N : List ByteArray} (o : GO) : ∀ (rs : List GRel) (ks : List ByteArray), (∀ r ∈ rs, r.f2 ∈ N) → (∀ n ∈ ks, n ∈ N) → ∀ n ∈ rs.foldl (relS o) ks, n ∈ N
  | [], ks, _, h, n, hn => h n hn
  | r :: rs, ks, hr, h, n, hn => by
    rw [List.foldl_cons] at hn
    refine relS_sub o rs _ (fun r' h' => hr r' (by simp [h'])) (fun m hm => ?_) n hn
    unfold relS at hm
    split at hm
    · exact h m hm
    · rcases (insS_mem _ _ _).1 hm with h1 | rfl
      · exact h m h1
      · exact hr r (by simp)
theorem secsS_sub {N : List ByteArray} (o : GO) : ∀ (ss : List GSec) (ks : List ByteArray), (∀ s ∈ ss, s.f0 ∈ N ∧ ∀ r ∈ s.f7, r.f2 ∈ N) → (∀ n ∈ ks, n ∈ N) → ∀ n ∈ ss.foldl (secS o) ks, n ∈ N
  | [], ks, _, h, n, hn => h n hn
  | s :: ss, ks, hs, h, n, hn => by
    rw [List.foldl_cons] at hn
    refine secsS_sub o ss _ (fun s' h' => hs s' (by simp [h'])) (fun m hm => ?_) n hn
    unfold secS at hm
    refine relS_sub o s.f7 _ (hs s (by simp)).2 (fun m' hm' => ?_) m hm
    split at hm'
    · rcases (insS_mem _ _ _).1 hm' with h1 | rfl
      · exact h m' h1
      · exact (hs s (by simp)).1
    · exact h m' hm'
theorem objS_sub {N : List ByteArray} : ∀ (os : List GO) (ks : List ByteArray), (∀ o ∈ os, ∀ s ∈ o.f0, s.f0 ∈ N ∧ ∀ r ∈ s.f7, r.f2 ∈ N) → (∀ n ∈ ks, n ∈ N) → ∀ n ∈ os.foldl objS ks, n ∈ N
  | [], ks, _, h, n, hn => h n hn
  | o :: os, ks, ho, h, n, hn => by
    rw [List.foldl_cons] at hn
    refine objS_sub os _ (fun o' h' => ho o' (by simp [h'])) (fun m hm => ?_) n hn
    exact secsS_sub o o.f0 ks (ho o (by simp)) h m hm
theorem allN_mem {os : List GO} {o : GO} (ho : o ∈ os) {s : GSec} (hs : s ∈ o.f0) : s.f0 ∈ allN os ∧ ∀ r ∈ s.f7, r.f2 ∈ allN os :=
  ⟨List.mem_flatMap.2 ⟨o, ho, List.mem_flatMap.2 ⟨s, hs, by simp⟩⟩, fun r hr => List.mem_flatMap.2 ⟨o, ho, List.mem_flatMap.2 ⟨s, hs, by simp; exact .inr ⟨r, hr, rfl⟩⟩⟩⟩
theorem wantK_sub {os ins : List GO} {entry : ByteArray} (h : ∀ o ∈ ins, o ∈ os) : ∀ n ∈ wantK ins entry, n ∈ entry :: allN os :=
  objS_sub ins [entry] (fun o ho s hs => ⟨by simp [(allN_mem (h o ho) hs).1], fun r hr => by simp [(allN_mem (h o ho) hs).2 r hr]⟩) (fun n hn => by rw [List.mem_singleton.1 hn]; simp)
theorem leftK_sub : ∀ (ins : List GO) (ks : List ByteArray), ∀ n ∈ leftK ins ks, n ∈ ks
  | [], ks, n, h => h
  | o :: ins, ks, n, h => (List.mem_filter.1 (leftK_sub ins _ n h)).1
theorem leftK_take (ins : List GO) (ks : List ByteArray) (m : Nat) (h : m < ins.length) : leftK (ins.take (m + 1)) ks = dropK (leftK (ins.take m) ks) ins[m] := by
  unfold leftK
  rw [List.take_succ_eq_append_getElem h, List.foldl_append]
  rfl
theorem dropK_mem (ks : List ByteArray) (o : GO) (n : ByteArray) : n ∈ dropK ks o ↔ n ∈ ks ∧ givesB o n = false := by
  unfold dropK
  rw [List.mem_filter]
  simp
/-- The state. -/
structure GS (w W : World) (bt : Nat) (v : Value) (ins : List GO) (tk : List Int) : Prop where
  hb : Below w.heap.size w W
  hi : Kd.R (KF k68 w) 68 W w.heap.size (fun q => some q = v.ownBlock) v ins
  ht : IsKeys Try.prog 2 4 W bt tk
  lo : w.heap.size ≤ bt
section
variable {w W W' : World} {bt : Nat} {v : Value} {ins : List GO} {tk : List Int}
theorem GS.below (h : GS w W bt v ins tk) (hb : Below W.heap.size W W') : GS w W' bt v ins tk := ⟨below_step h.hb hb, Kd.R_below h.hi hb, h.ht.below hb, h.lo⟩
theorem GS.alloc (h : GS w W bt v ins tk) (o : Obj) : GS w (W.alloc o) bt v ins tk := h.below (below_alloc (Below.refl _ _) o)
theorem GS.drewN (h : GS w W bt v ins tk) (n : Nat) : GS w (W.drewN n) bt v ins tk := h.below (pw_below_drewN (Below.refl _ _) n)
theorem GS.own_lt (h : GS w W bt v ins tk) : ∀ q, v.ownBlock = some q → q < W.heap.size := fun q hq => (h.hi.2.choose_spec.1.lt q hq).2
theorem GS.other (h : GS w W bt v ins tk) {b : Nat} (hg : W.grownBy W' (some b)) (hlo : w.heap.size ≤ b) (h1 : v.ownBlock ≠ some b) (h2 : bt ≠ b) : GS w W' bt v ins tk :=
  ⟨belowG h.hb hg (fun k e => by cases e; exact hlo), Kd.R_grown h.hi hg (fun k hk e => h1 (hk.symm.trans e)), h.ht.kept hg (fun e => h2 (Option.some.inj e)), h.lo⟩
theorem GS.none (h : GS w W bt v ins tk) (hg : W.grownBy W' none) : GS w W' bt v ins tk :=
  ⟨belowG h.hb hg (fun k e => by cases e), Kd.R_grown h.hi hg (fun k hk e => by cases e), h.ht.kept hg (by simp), h.lo⟩
theorem GS.wanted {bw : Nat} {ks : List ByteArray} (h : GS w W bt v ins tk) (hs : IsKeysS Try.prog 9 4 W bw ks) (hg : W.grownBy W' (some bw)) (hlt : bt < bw) : GS w W' bt v ins tk :=
  h.other hg (by have := h.lo; omega) (Kd.R_notkeysS h.hi hs) (by omega)
theorem GS.take (h : GS w W bt v ins tk) {tk' : List Int} (hs : IsKeys Try.prog 2 4 W' bt tk') (hg : W.grownBy W' (some bt)) : GS w W' bt v ins tk' :=
  ⟨belowG h.hb hg (fun k e => by cases e; exact h.lo), Kd.R_grown h.hi hg (fun k hk e => Kd.R_notkeys h.hi h.ht (hk.symm.trans e)), hs, h.lo⟩
end
def hitAt (arch : List GO) (tk : List Int) (W : List ByteArray) (i : Nat) : Bool := !decide ((i : Int) ∈ tk) && hitO W (arch.getD i z68)
theorem firstHit_none {arch : List GO} {tk : List Int} {W : List ByteArray} (h : ∀ j, j < arch.length → hitAt arch tk W j = false) : firstHit arch tk W = none := by
  unfold firstHit
  refine List.find?_eq_none.2 (fun j hj => ?_)
  have h2 := h j (List.mem_range.1 hj)
  unfold hitAt at h2
  rw [h2]
  simp
theorem firstHit_some {arch : List GO} {tk : List Int} {W : List ByteArray} {i : Nat} (hi : i < arch.length) (hno : ∀ j, j < i → hitAt arch tk W j = false) (h : hitAt arch tk W i = true) : firstHit arch tk W = some i := by
  unfold firstHit
  refine List.find?_range_eq_some.2 ⟨?_, List.mem_range.2 hi, fun j hj => ?_⟩
  · exact h
  · have h2 := hno j hj
    unfold hitAt at h2
    rw [h2]
    rfl
theorem insK_idem (tk : List Int) (x : Int) : insK (insK tk x) x = insK tk x := by
  have h : x ∈ insK tk x := (insK_mem _ _ _).2 (.inr rfl)
  rw [insK, if_pos h]
theorem hit_step {p : Nat → Bool} {i : Nat} (h : ∀ j, j < i → p j = false) (hi : p i = false) : ∀ j, j < i + 1 → p j = false := fun j hj => by
  rcases Nat.lt_succ_iff_lt_or_eq.1 hj with h1 | rfl
  · exact h j h1
  · exact hi
theorem any_take {α : Type} (p : α → Bool) (xs : List α) (j : Nat) (h : j < xs.length) : (xs.take (j + 1)).any p = ((xs.take j).any p || p xs[j]) := by
  rw [List.take_succ_eq_append_getElem h, List.any_append]
  simp
theorem ne_cellsG {P : Program} {k e : TypeId} {w : World} {b g : Nat} {ks : List Int} (h : IsKeys P k e w b ks) {cs : Array Value} {t : TypeId} {sh : Nat × Nat} (hg : w.heap[g]? = some (.cells cs t sh)) : b ≠ g := by
  obtain ⟨D, ⟨es, clock, hb, _⟩, _⟩ := h
  rintro rfl
  rw [hb] at hg
  cases hg
end Go.Proofs.Ythegbhfoleiegaa.All

